/- Package stroke: Mask. -/
import Derived.Deep.CutRange
import Derived.Test.YtmnoeoecjfhhbaaGreatHmY
import Derived.Test.YtmnoeoecjfhhbaaGreatMskM
namespace Go.Proofs.YtmnoeoecjfhhbaaGreat
open Go.RowKit
theorem sgn_neg' {p:Int} (h:p<0):sgn p = -1:=by unfold sgn;split <;> (try split) <;> omega
theorem sgn_pos' {p:Int} (h:0<p):sgn p=1:=by unfold sgn;split <;> (try split) <;> omega
theorem sgn_ahead {p q d:Int} (hp:p≤0) (hq:0≤q) (hd:0≤d):0≤sgR p q d ↔ p*p≤q*q*d:=by
 have hqd:0≤q*q*d:=Int.mul_nonneg (Int.mul_nonneg hq hq) hd
 rcases (by omega:d=0∨0<d) with rfl|h
 ·rw [sgR_zero,Int.mul_zero]
  rcases (by omega:p=0∨p<0) with rfl|h
  ·simp [sgn]
  ·have:0<p*p:=Int.mul_pos_of_neg_of_neg h h
   rw [sgn_neg' h]
   omega
 ·rw [sgR_pos p q h]
  have hqd2:q=0→q*q*d=0:=fun h=>by rw [h];simp
  rcases (by omega:p=0∨p<0) with rfl|h1
  ·rw [if_pos (.inl (by rfl)),Int.mul_zero]
   rcases (by omega:q=0∨0<q) with rfl|h2
   ·simp [sgn]
   ·rw [sgn_pos' h2];omega
  ·have hpp:0<p*p:=Int.mul_pos_of_neg_of_neg h1 h1
   have e1:=sgn_neg' h1
   rcases (by omega:q=0∨0<q) with rfl|h2
   ·have e2:sgn 0=0:=rfl
    rw [e1,e2,if_neg (by omega),if_pos rfl,hqd2 rfl]
    omega
   ·have e2:=sgn_pos' h2
    rw [e1,e2,if_neg (by omega),if_neg (by omega)]
    unfold cmpI
    repeat' split
    all_goals omega
theorem sgn_behind {p q d:Int} (hp:0≤p) (hq:0≤q) (hd:0≤d):sgR p (-q) d≤0 ↔ p*p≤q*q*d:=by
 have hqd:0≤q*q*d:=Int.mul_nonneg (Int.mul_nonneg hq hq) hd
 rcases (by omega:d=0∨0<d) with rfl|h
 ·rw [sgR_zero,Int.mul_zero]
  rcases (by omega:p=0∨0<p) with rfl|h
  ·simp [sgn]
  ·have:0<p*p:=Int.mul_pos h h
   rw [sgn_pos' h]
   omega
 ·rw [sgR_pos p (-q) h,show -q * -q=q*q by rw [Int.neg_mul_neg]]
  have hqd2:q=0→q*q*d=0:=fun h=>by rw [h];simp
  rcases (by omega:p=0∨0<p) with rfl|h1
  ·rw [if_pos (.inl (by rfl)),Int.mul_zero]
   rcases (by omega:q=0∨0<q) with rfl|h2
   ·simp [sgn]
   ·rw [sgn_neg' (p := -q) (by omega)];omega
  ·have hpp:0<p*p:=Int.mul_pos h1 h1
   have e1:=sgn_pos' h1
   rcases (by omega:q=0∨0<q) with rfl|h2
   ·have e2:sgn (-0)=0:=rfl
    rw [e1,e2,if_neg (by omega),if_pos rfl,hqd2 rfl]
    omega
   ·have e2:=sgn_neg' (p := -q) (by omega)
    rw [e1,e2,if_neg (by omega),if_neg (by omega)]
    unfold cmpI
    repeat' split
    all_goals omega
set_option maxRecDepth 100000 in
theorem strokeSign_calls (p q d:Int) (hf:Fit p q d) (w:World):Calls Tryz.prog 243 #[.int .i64 p,.int .i64 q,.int .i64 d] w fun e w'=>e=.returned (.int .i64 (sgR p q d))∧Below w.heap.size w w':=by
 have hL:=Holds.start w
 have HS:=Lib.hid (fun w=>rootSign_calls p q d hf w)
 generalize sgR p q d=R at *
 go_enter Tryz.func243,Tryz.ntmps243
 go_wp2_with (go_at_call 214;(with_reducible refine (HS.out _).mono ?_);rintro e _ ⟨rfl,hb⟩;replace hL:=hL.call hb;clear hb)
 go_ret
 exact ⟨rfl,hL.below⟩
set_option maxRecDepth 100000 in
set_option maxHeartbeats 8000000 in
theorem strokePiece_calls (x0 y0:Int) (bt:Bool) (cx cy x1 y1 wide:Int) (f l:Bool) (x y:Int) (hx0 : -8191≤x0∧x0≤8191) (hy0 : -8191≤y0∧y0≤8191) (hx1 : -8191≤x1∧x1≤8191) (hy1 : -8191≤y1∧y1≤8191) (hw:0≤wide∧wide≤2048) (hx : -8191≤x∧x≤8191) (hy : -8191≤y∧y≤8191) (w:World) :
  Calls Tryz.prog 242 #[.agg #[.int .i64 x0,.int .i64 y0,.bool bt,.int .i64 cx,.int .i64 cy,.int .i64 x1,.int .i64 y1,.int .i64 wide,.bool f,.bool l],.int .i64 x,.int .i64 y] w fun e w'=>e=.returned (.bool (covS ⟨⟨x0,y0,bt,cx,cy,x1,y1⟩,wide,f,l,0⟩ x y))∧Below w.heap.size w w':=by
 have hL:=Holds.start w
 have hR:covS ⟨⟨x0,y0,bt,cx,cy,x1,y1⟩,wide,f,l,0⟩ x y=(decide (4*(((x-x0)*(y1-y0)-(y-y0)*(x1-x0))*((x-x0)*(y1-y0)-(y-y0)*(x1-x0)))≤wide*wide*((x1-x0)*(x1-x0)+(y1-y0)*(y1-y0))) &&
  ((decide (0≤(x-x0)*(x1-x0)+(y-y0)*(y1-y0)) || (f&&decide (4*(((x-x0)*(x1-x0)+(y-y0)*(y1-y0))*((x-x0)*(x1-x0)+(y-y0)*(y1-y0)))≤wide*wide*((x1-x0)*(x1-x0)+(y1-y0)*(y1-y0))))) &&
  (decide ((x-x0)*(x1-x0)+(y-y0)*(y1-y0)≤(x1-x0)*(x1-x0)+(y1-y0)*(y1-y0)) || (l&&decide (4*(((x-x0)*(x1-x0)+(y-y0)*(y1-y0)-((x1-x0)*(x1-x0)+(y1-y0)*(y1-y0)))*((x-x0)*(x1-x0)+(y-y0)*(y1-y0)-((x1-x0)*(x1-x0)+(y1-y0)*(y1-y0))))≤wide*wide*((x1-x0)*(x1-x0)+(y1-y0)*(y1-y0))))))):=rfl
 generalize covS ⟨⟨x0,y0,bt,cx,cy,x1,y1⟩,wide,f,l,0⟩ x y=R at *
 have wDX:IntKind.i64.wrap (x1-x0)=x1-x0:=by rw [IntKind.wrap_i64];omega
 have wDY:IntKind.i64.wrap (y1-y0)=y1-y0:=by rw [IntKind.wrap_i64];omega
 have wVX:IntKind.i64.wrap (x-x0)=x-x0:=by rw [IntKind.wrap_i64];omega
 have wVY:IntKind.i64.wrap (y-y0)=y-y0:=by rw [IntKind.wrap_i64];omega
 have bX : -16382≤x1-x0∧x1-x0≤16382:=by omega
 have bY : -16382≤y1-y0∧y1-y0≤16382:=by omega
 have bV : -16382≤x-x0∧x-x0≤16382:=by omega
 have bZ : -16382≤y-y0∧y-y0≤16382:=by omega
 generalize hDX:x1-x0=DX at *
 generalize hDY:y1-y0=DY at *
 generalize hVX:x-x0=VX at *
 generalize hVY:y-y0=VY at *
 have bXX:=mul_bd bX.1 bX.2 bX.1 bX.2
 have bYY:=mul_bd bY.1 bY.2 bY.1 bY.2
 have bA1:=mul_bd bV.1 bV.2 bX.1 bX.2
 have bA2:=mul_bd bZ.1 bZ.2 bY.1 bY.2
 have bK1:=mul_bd bV.1 bV.2 bY.1 bY.2
 have bK2:=mul_bd bZ.1 bZ.2 bX.1 bX.2
 have nXX:0≤DX*DX:=by rw [←Int.natAbs_mul_self];omega
 have nYY:0≤DY*DY:=by rw [←Int.natAbs_mul_self];omega
 have bWW:=mul_bd (a:=wide) (b:=wide) (A:=2048) (B:=2048) (by omega) (by omega) (by omega) (by omega)
 have nWW:0≤wide*wide:=by rw [←Int.natAbs_mul_self];omega
 generalize hXX:DX*DX=XX at *
 generalize hYY:DY*DY=YY at *
 generalize hA1:VX*DX=A1 at *
 generalize hA2:VY*DY=A2 at *
 generalize hK1:VX*DY=K1 at *
 generalize hK2:VY*DX=K2 at *
 have bU : -536739848≤A1+A2∧A1+A2≤536739848:=by omega
 have bL:0≤XX+YY∧XX+YY≤536739848:=by omega
 have bK : -536739848≤K1-K2∧K1-K2≤536739848:=by omega
 have wU:IntKind.i64.wrap (A1+A2)=A1+A2:=by rw [IntKind.wrap_i64];omega
 have wL:IntKind.i64.wrap (XX+YY)=XX+YY:=by rw [IntKind.wrap_i64];omega
 have wK:IntKind.i64.wrap (K1-K2)=K1-K2:=by rw [IntKind.wrap_i64];omega
 generalize hU:A1+A2=U at *
 generalize hLL:XX+YY=LL at *
 generalize hK:K1-K2=K at *
 have b4 : -2146959392≤4*K∧4*K≤2146959392:=by omega
 have bQ:=mul_bd b4.1 b4.2 bK.1 bK.2
 have bWL:=mul_bd (a:=wide*wide) (b:=LL) (A:=4194304) (B:=536739848) (by omega) (by omega) (by omega) (by omega)
 have HSA:Hid (U≤0→(0≤sgR (2*U) wide LL ↔ 4*(U*U)≤wide*wide*LL)):=Lib.hid (by
  intro h
  rw [sgn_ahead (by omega) hw.1 bL.1,show 2*U*(2*U)=4*(U*U) by grind])
 have HSB:Hid (LL≤U→(sgR (2*(U-LL)) (-wide) LL≤0 ↔ 4*((U-LL)*(U-LL))≤wide*wide*LL)):=Lib.hid (by
  intro h
  rw [sgn_behind (by omega) hw.1 bL.1,show 2*(U-LL)*(2*(U-LL))=4*((U-LL)*(U-LL)) by grind])
 rw [show 4*(K*K)=4*K*K by rw [Int.mul_assoc]] at hR
 generalize hWW:wide*wide=WW at *
 generalize hQ:4*K*K=Q at *
 generalize hN:WW*LL=N at *
 have HFA:Hid (Fit (2*U) wide LL):=Lib.hid ⟨by omega,by omega,by omega,by omega,by omega,by omega⟩
 have HFB:Hid (Fit (2*(U-LL)) (-wide) LL):=Lib.hid ⟨by omega,by omega,by omega,by omega,by omega,by omega⟩
 have HRF:=Lib.hid hR
 clear hR
 have n1:True:=trivial
 go_enter Tryz.func242,Tryz.ntmps242
 go_wp2_with (first|(with_reducible (clear hL n1;intro b1 w1 hL))|((with_reducible refine goJ rfl ?_);refine goW ?_))
 replace hL:=hL.drew
 have hS:(fun w':World=>w'.rangeAt b1 0 [.int .i64 x0,.int .i64 y0,.bool bt,.int .i64 cx,.int .i64 cy,.int .i64 x1,.int .i64 y1,.int .i64 wide,.bool f,.bool l]) _:=hL.range (by (repeat (first|with_reducible exact At.here|with_reducible apply At.there)))
 refine wpH_begin (by kernel_rfl) (fun w':World=>w'.rangeAt b1 0 [.int .i64 x0,.int .i64 y0,.bool bt,.int .i64 cx,.int .i64 cy,.int .i64 x1,.int .i64 y1,.int .i64 wide,.bool f,.bool l]) ?_
 refine dsH 0 (.pointer (some ⟨b1,0,none⟩)) hS ?_
 refine dsH 1 (.pointer (some ⟨b1,5,none⟩)) hS ?_
 refine drH 2 (.int .i64 x1) hS ?_ ?_;(· exact fun w' hw=>(load_cell (hw 5 _ rfl)))
 refine dsH 3 (.pointer (some ⟨b1,0,none⟩)) hS ?_
 refine dsH 4 (.pointer (some ⟨b1,0,none⟩)) hS ?_
 refine drH 5 (.int .i64 x0) hS ?_ ?_;(· exact fun w' hw=>(load_cell (hw 0 _ rfl)))
 refine dsH 6 (.int .i64 DX) hS ?_
 refine dsH 7 (.pointer (some ⟨b1,0,none⟩)) hS ?_
 refine dsH 8 (.pointer (some ⟨b1,6,none⟩)) hS ?_
 refine drH 9 (.int .i64 y1) hS ?_ ?_;(· exact fun w' hw=>(load_cell (hw 6 _ rfl)))
 refine dsH 10 (.pointer (some ⟨b1,0,none⟩)) hS ?_
 refine dsH 11 (.pointer (some ⟨b1,1,none⟩)) hS ?_
 refine drH 12 (.int .i64 y0) hS ?_ ?_;(· exact fun w' hw=>(load_cell (hw 1 _ rfl)))
 refine dsH 13 (.int .i64 DY) hS ?_
 refine dsH 14 (.int .i64 DX) hS ?_
 refine dsH 15 (.int .i64 DY) hS ?_
 refine wpAnyH_done (by kernel_rfl) ?_ _
 clear hS
 go_wp2_with (first|(with_reducible (clear hL n1;intro b1 w1 hL))|((with_reducible refine goJ rfl ?_);refine goW ?_))
 replace hL:=hL.drew
 have hS:(fun w':World=>w'.rangeAt b1 0 [.int .i64 x0,.int .i64 y0,.bool bt,.int .i64 cx,.int .i64 cy,.int .i64 x1,.int .i64 y1,.int .i64 wide,.bool f,.bool l]) _:=hL.range (by (repeat (first|with_reducible exact At.here|with_reducible apply At.there)))
 refine wpH_begin (by kernel_rfl) (fun w':World=>w'.rangeAt b1 0 [.int .i64 x0,.int .i64 y0,.bool bt,.int .i64 cx,.int .i64 cy,.int .i64 x1,.int .i64 y1,.int .i64 wide,.bool f,.bool l]) ?_
 refine dsH 0 (.int .i64 x) hS ?_
 refine dsH 1 (.pointer (some ⟨b1,0,none⟩)) hS ?_
 refine dsH 2 (.pointer (some ⟨b1,0,none⟩)) hS ?_
 refine drH 3 (.int .i64 x0) hS ?_ ?_;(· exact fun w' hw=>(load_cell (hw 0 _ rfl)))
 refine dsH 4 (.int .i64 VX) hS ?_
 refine dsH 5 (.int .i64 y) hS ?_
 refine dsH 6 (.pointer (some ⟨b1,0,none⟩)) hS ?_
 refine dsH 7 (.pointer (some ⟨b1,1,none⟩)) hS ?_
 refine drH 8 (.int .i64 y0) hS ?_ ?_;(· exact fun w' hw=>(load_cell (hw 1 _ rfl)))
 refine dsH 9 (.int .i64 VY) hS ?_
 refine dsH 10 (.int .i64 VX) hS ?_
 refine dsH 11 (.int .i64 VY) hS ?_
 refine wpAnyH_done (by kernel_rfl) ?_ _
 clear hS
 rcases (by omega:N<Q∨(¬N<Q∧U<0)∨(¬N<Q∧¬U<0∧LL<U)∨(¬N<Q∧¬U<0∧¬LL<U)) with g|⟨g,g1⟩|⟨g,g1,g2⟩|⟨g,g1,g2⟩
 ·have HR:=Lib.hid (show R=false by rw [HRF.out,decide_eq_false (show ¬Q≤N by omega)];rfl)
  clear HRF HSA HSB HFA HFB
  go_wp2_with (first|(with_reducible (clear hL n1;intro b1 w1 hL))|((with_reducible refine goJ rfl ?_);refine goW ?_))
  go_ret
  exact ⟨ret_bool HR.out.symm,hL.below⟩
 ·have hR:=HRF.out
  rw [decide_eq_true (show Q≤N by omega),decide_eq_false (show ¬0≤U by omega),decide_eq_true (show U≤LL by omega)] at hR
  cases f with
  | false =>
   have HR:=Lib.hid (show R=false by rw [hR];rfl)
   clear hR HRF HSA HSB HFA HFB
   go_wp2_with (first|(with_reducible (clear hL n1;intro b1 w1 hL))|((with_reducible refine goJ rfl ?_);refine goW ?_))
   go_ret
   exact ⟨ret_bool HR.out.symm,hL.below⟩
  | true =>
   have HR:=Lib.hid (show R=decide (0≤sgR (2*U) wide LL) by rw [hR];have h:=HSA.out (by omega);simp [h])
   have HS:=Lib.hid (fun w=>strokeSign_calls (2*U) wide LL HFA.out w)
   clear hR HRF HSA HSB HFA HFB
   generalize sgR (2*U) wide LL=G at *
   go_wp2_with (first|(go_at_call 243;(with_reducible refine (HS.out _).mono ?_);rintro e _ ⟨rfl,hb⟩;replace hL:=hL.call hb;clear hb)|((with_reducible refine goJ rfl ?_);refine goW ?_))
   go_ret
   exact ⟨ret_bool HR.out.symm,hL.below⟩
 ·have hR:=HRF.out
  rw [decide_eq_true (show Q≤N by omega),decide_eq_true (show 0≤U by omega),decide_eq_false (show ¬U≤LL by omega)] at hR
  cases l with
  | false =>
   have HR:=Lib.hid (show R=false by rw [hR];rfl)
   clear hR HRF HSA HSB HFA HFB
   go_wp2_with (first|(with_reducible (clear hL n1;intro b1 w1 hL))|((with_reducible refine goJ rfl ?_);refine goW ?_))
   go_ret
   exact ⟨ret_bool HR.out.symm,hL.below⟩
  | true =>
   have HR:=Lib.hid (show R=decide (sgR (2*(U-LL)) (-wide) LL≤0) by rw [hR];have h:=HSB.out (by omega);simp [h])
   have HS:=Lib.hid (fun w=>strokeSign_calls (2*(U-LL)) (-wide) LL HFB.out w)
   clear hR HRF HSA HSB HFA HFB
   generalize sgR (2*(U-LL)) (-wide) LL=G at *
   go_wp2_with (first|(go_at_call 243;(with_reducible refine (HS.out _).mono ?_);rintro e _ ⟨rfl,hb⟩;replace hL:=hL.call hb;clear hb)|((with_reducible refine goJ rfl ?_);refine goW ?_))
   go_ret
   exact ⟨ret_bool HR.out.symm,hL.below⟩
 ·have HR:=Lib.hid (show R=true by rw [HRF.out,decide_eq_true (show Q≤N by omega),decide_eq_true (show 0≤U by omega),decide_eq_true (show U≤LL by omega)];rfl)
  clear HRF HSA HSB HFA HFB
  go_wp2_with (first|(with_reducible (clear hL n1;intro b1 w1 hL))|((with_reducible refine goJ rfl ?_);refine goW ?_))
  go_ret
  exact ⟨ret_bool HR.out.symm,hL.below⟩
set_option maxRecDepth 100000 in
set_option maxHeartbeats 8000000 in
theorem strokeDisc_calls (x0 y0:Int) (bt:Bool) (cx cy x1 y1 wide:Int) (f l:Bool) (x y:Int) (hx0 : -8191≤x0∧x0≤8191) (hy0 : -8191≤y0∧y0≤8191) (hw:0≤wide∧wide≤2048) (hx : -8191≤x∧x≤8191) (hy : -8191≤y∧y≤8191) (w:World) :
  Calls Tryz.prog 244 #[.agg #[.int .i64 x0,.int .i64 y0,.int .i64 wide],.int .i64 x,.int .i64 y] w fun e w'=>e=.returned (.bool (covS ⟨⟨x0,y0,bt,cx,cy,x1,y1⟩,wide,f,l,1⟩ x y))∧Below w.heap.size w w':=by
 have hL:=Holds.start w
 have hR:covS ⟨⟨x0,y0,bt,cx,cy,x1,y1⟩,wide,f,l,1⟩ x y=decide (4*((x-x0)*(x-x0)+(y-y0)*(y-y0))≤wide*wide):=rfl
 generalize covS ⟨⟨x0,y0,bt,cx,cy,x1,y1⟩,wide,f,l,1⟩ x y=R at *
 have wVX:IntKind.i64.wrap (x-x0)=x-x0:=by rw [IntKind.wrap_i64];omega
 have wVY:IntKind.i64.wrap (y-y0)=y-y0:=by rw [IntKind.wrap_i64];omega
 have bV : -16382≤x-x0∧x-x0≤16382:=by omega
 have bZ : -16382≤y-y0∧y-y0≤16382:=by omega
 generalize hVX:x-x0=VX at *
 generalize hVY:y-y0=VY at *
 have bXX:=mul_bd bV.1 bV.2 bV.1 bV.2
 have bYY:=mul_bd bZ.1 bZ.2 bZ.1 bZ.2
 have bWW:=mul_bd (a:=wide) (b:=wide) (A:=2048) (B:=2048) (by omega) (by omega) (by omega) (by omega)
 generalize hXX:VX*VX=XX at *
 generalize hYY:VY*VY=YY at *
 generalize hWW:wide*wide=WW at *
 have HR:=Lib.hid hR
 clear hR
 have n1:True:=trivial
 go_enter Tryz.func244,Tryz.ntmps244
 go_wp2_with (first|(with_reducible (clear hL n1;intro b1 w1 hL))|((with_reducible refine goJ rfl ?_);refine goW ?_))
 replace hL:=hL.drew
 have hS:(fun w':World=>w'.rangeAt b1 0 [.int .i64 x0,.int .i64 y0,.int .i64 wide]) _:=hL.range (by (repeat (first|with_reducible exact At.here|with_reducible apply At.there)))
 refine wpH_begin (by kernel_rfl) (fun w':World=>w'.rangeAt b1 0 [.int .i64 x0,.int .i64 y0,.int .i64 wide]) ?_
 refine dsH 0 (.int .i64 x) hS ?_
 refine dsH 1 (.pointer (some ⟨b1,0,none⟩)) hS ?_
 refine drH 2 (.int .i64 x0) hS ?_ ?_;(· exact fun w' hw=>(load_cell (hw 0 _ rfl)))
 refine dsH 3 (.int .i64 VX) hS ?_
 refine dsH 4 (.int .i64 y) hS ?_
 refine dsH 5 (.pointer (some ⟨b1,1,none⟩)) hS ?_
 refine drH 6 (.int .i64 y0) hS ?_ ?_;(· exact fun w' hw=>(load_cell (hw 1 _ rfl)))
 refine dsH 7 (.int .i64 VY) hS ?_
 refine dsH 8 (.int .i64 VX) hS ?_
 refine dsH 9 (.int .i64 VY) hS ?_
 refine wpAnyH_done (by kernel_rfl) ?_ _
 clear hS
 go_wp2_with (first|(with_reducible (clear hL n1;intro b1 w1 hL))|((with_reducible refine goJ rfl ?_);refine goW ?_))
 go_ret
 exact ⟨ret_bool HR.out.symm,hL.below⟩
set_option maxRecDepth 100000 in
set_option maxHeartbeats 8000000 in
theorem strokeSquare_calls (x0 y0:Int) (bt:Bool) (cx cy x1 y1 wide:Int) (f l:Bool) (x y:Int) (hx0 : -8191≤x0∧x0≤8191) (hy0 : -8191≤y0∧y0≤8191) (hw:0≤wide∧wide≤2048) (hx : -8191≤x∧x≤8191) (hy : -8191≤y∧y≤8191) (w:World) :
  Calls Tryz.prog 245 #[.agg #[.int .i64 x0,.int .i64 y0,.int .i64 wide],.int .i64 x,.int .i64 y] w fun e w'=>e=.returned (.bool (covS ⟨⟨x0,y0,bt,cx,cy,x1,y1⟩,wide,f,l,2⟩ x y))∧Below w.heap.size w w':=by
 have hL:=Holds.start w
 have hR:covS ⟨⟨x0,y0,bt,cx,cy,x1,y1⟩,wide,f,l,2⟩ x y=((decide (2*(x-x0)≤wide)&&decide (2*(x0-x)≤wide))&&(decide (2*(y-y0)≤wide)&&decide (2*(y0-y)≤wide))):=rfl
 generalize covS ⟨⟨x0,y0,bt,cx,cy,x1,y1⟩,wide,f,l,2⟩ x y=R at *
 rw [show 2*(x0-x) = -2*(x-x0) by omega,show 2*(y0-y) = -2*(y-y0) by omega] at hR
 have wVX:IntKind.i64.wrap (x-x0)=x-x0:=by rw [IntKind.wrap_i64];omega
 have wVY:IntKind.i64.wrap (y-y0)=y-y0:=by rw [IntKind.wrap_i64];omega
 have bV : -16382≤x-x0∧x-x0≤16382:=by omega
 have bZ : -16382≤y-y0∧y-y0≤16382:=by omega
 generalize hVX:x-x0=VX at *
 generalize hVY:y-y0=VY at *
 obtain ⟨m,hm⟩:∃ m,max (2*VX) (-2*VX)=m:=⟨_,rfl⟩
 obtain ⟨n,hn⟩:∃ n,max (2*VY) (-2*VY)=n:=⟨_,rfl⟩
 have hR2:R=(decide (m≤wide)&&decide (n≤wide)):=by
  rw [hR,Bool.eq_iff_iff]
  simp
  omega
 obtain ⟨d1,hd1⟩:∃ d,decide (m≤wide)=d:=⟨_,rfl⟩
 obtain ⟨d2,hd2⟩:∃ d,decide (n≤wide)=d:=⟨_,rfl⟩
 rw [hd1,hd2] at hR2
 have HR:=Lib.hid hR2
 clear hR hR2
 have n1:True:=trivial
 go_enter Tryz.func245,Tryz.ntmps245
 go_wp2_with (first|(with_reducible (clear hL n1;intro b1 w1 hL))|((with_reducible refine goJ rfl ?_);refine goW ?_))
 replace hL:=hL.drew
 have hS:(fun w':World=>w'.rangeAt b1 0 [.int .i64 x0,.int .i64 y0,.int .i64 wide]) _:=hL.range (by (repeat (first|with_reducible exact At.here|with_reducible apply At.there)))
 refine wpH_begin (by kernel_rfl) (fun w':World=>w'.rangeAt b1 0 [.int .i64 x0,.int .i64 y0,.int .i64 wide]) ?_
 refine dsH 0 (.int .i64 x) hS ?_
 refine dsH 1 (.pointer (some ⟨b1,0,none⟩)) hS ?_
 refine drH 2 (.int .i64 x0) hS ?_ ?_;(· exact fun w' hw=>(load_cell (hw 0 _ rfl)))
 refine dsH 3 (.int .i64 VX) hS ?_
 refine dsH 4 (.int .i64 y) hS ?_
 refine dsH 5 (.pointer (some ⟨b1,1,none⟩)) hS ?_
 refine drH 6 (.int .i64 y0) hS ?_ ?_;(· exact fun w' hw=>(load_cell (hw 1 _ rfl)))
 refine dsH 7 (.int .i64 VY) hS ?_
 refine dsH 8 (.int .i64 VX) hS ?_
 refine dsH 9 (.int .i64 VY) hS ?_
 refine wpAnyH_done (by kernel_rfl) ?_ _
 clear hS
 cases d1
 ·go_wp2_with ((with_reducible refine goJ rfl ?_);refine goW ?_)
  go_ret
  exact ⟨ret_bool HR.out.symm,hL.below⟩
 ·go_wp2_with ((with_reducible refine goJ rfl ?_);refine goW ?_)
  go_ret
  exact ⟨ret_bool (by rw [HR.out];rfl),hL.below⟩
open Go.RowKit
def shpI (s:Shp):Value:=if s.kind=0 then .iface 286 (.agg #[.int .i64 s.e.x0,.int .i64 s.e.y0,.bool s.e.bent,.int .i64 s.e.cx,.int .i64 s.e.cy,.int .i64 s.e.x1,.int .i64 s.e.y1,.int .i64 s.wide,.bool s.first,.bool s.last])
 else if s.kind=1 then .iface 288 (.agg #[.int .i64 s.e.x0,.int .i64 s.e.y0,.int .i64 s.wide]) else .iface 289 (.agg #[.int .i64 s.e.x0,.int .i64 s.e.y0,.int .i64 s.wide])
def shpJ (s:Shp):List Value:=[shpI s]
def ShisAt (w:World) (v:Value) (l:List Shp):Prop:=SliceAt w 1 v (l.map shpJ)
def ShisOut (l:List Shp) (w:World) (e:Ending) (w':World):Prop:=∃ v,e=.returned v∧Below w.heap.size w w'∧Fresh w w' (fun w=>ShisAt w v l)
theorem ShisAt.parts {w:World} {s:Value} {l:List Shp} (h:ShisAt w s l) :
  ∃ a cap,s=.slice a l.length cap∧l.length≤cap∧cap≤maxLen∧∀ i,i<l.length→∃ b o,a=some ⟨b,o,none⟩∧w.cell? ⟨b,o+i,none⟩=some (shpI (l.getD i default)):=by
 obtain ⟨a,cap,h2,h3,h4,h5⟩:=h
 simp only [List.length_map] at h2 h3 h5
 refine ⟨a,cap,h2,h3,h4,fun i hi=>?_⟩
 obtain ⟨b,o,e,hr⟩:=h5 i hi
 refine ⟨b,o,e,?_⟩
 simp only [List.getElem_map] at hr
 rw [show l.getD i default=l[i] by simp [hi]]
 have:=hr 0 _ rfl
 rw [Nat.mul_one] at this
 exact this
theorem shpJ_len (l:List Shp):∀ c∈l.map shpJ,c.length=1:=by
 intro c hc
 obtain ⟨s,_,rfl⟩:=List.mem_map.1 hc
 rfl
theorem shpJ_snoc (p:List Shp) (s:Shp):((p++[s]).map shpJ).flatten=(p.map shpJ).flatten++shpJ s:=by simp
theorem shpI_one (s:Shp):(shpI s).oneCell'=true:=by
 unfold shpI
 split
 ·rfl
 ·split <;> rfl
theorem appendSi {P:Program} {w0 w:World} {M:List Res} {Φ:List (World→Prop)} {K2:Value→World→Prop} {t ty e bytes:Nat} {z v u:Value} [ht:SliceT P t e] [hi:ElemT P e 1 bytes z] {l:List Shp} (hs:ShisAt w u l)
  (hL:Holds w0 w M Φ) {n:Nat} {xs:List Value} {f:Res→List Res}
  (h:∀ v' w',Holds w0 w' (f (own w0.heap.size e 1 v' (n+l.length) (xs++(l.map shpJ).flatten))) Φ→K2 v' w')
  (hu:∀ r',Upd M (own w0.heap.size e 1 v n xs) r' (f r'):=by intro _;(repeat (first|with_reducible exact Upd.here|with_reducible apply Upd.there)))
  (hz:z.cells.size=1:=by rfl) (h63:n+l.length≤maxLen:=by (unfold maxLen;omega)) (hbytes:(n+l.length)*bytes≤140737488355328:=by omega):AppendAt P t ty v u w K2 :=
 appendOld hs (shpJ_len l) (by intro x hx y hy;obtain ⟨e,_,rfl⟩:=List.mem_map.1 hx;unfold shpJ at hy;rw [List.mem_singleton.1 hy];exact shpI_one e) hL hu hz (by decide) (by rw [List.length_map];exact h63) (by rw [List.length_map];exact hbytes) (by intro v' w' h';rw [List.length_map] at h';exact h v' w' h')
theorem nilShis {w0 w:World} {M:List Res} {Φ:List (World→Prop)} (hL:Holds w0 w M Φ):ShisOut [] w0 (.returned (.slice none 0 0)) w :=
 ⟨_,rfl,hL.below,(hL.triv (χ:=fun w=>SliceAt w 1 (.slice none 0 0) []) fun _=>⟨none,0,rfl,Nat.le_refl _,by unfold maxLen;omega,fun i hi=>by simp at hi⟩).fresh⟩
theorem oneShi {w0 w:World} {M M':List Res} {Φ:List (World→Prop)} {b:Nat} {cs:Array Value} {T:TypeId} {s:Shp} (hL:Holds w0 w M Φ) (k:Rem M (blk b cs T) M') (hcs:cs=#[shpI s]):ShisOut [s] w0 (.returned (.slice (some ⟨b,0,none⟩) 1 1)) w:=by
 subst hcs
 refine ⟨_,rfl,hL.below,(hL.settle k (φ:=fun w=>ShisAt w (.slice (some ⟨b,0,none⟩) 1 1) [s]) fun w h=>⟨some ⟨b,0,none⟩,1,rfl,Nat.le_refl _,by unfold maxLen;omega,fun i hi=>⟨b,0,rfl,?_⟩⟩).fresh⟩
 have e:i=0:=by simpa using hi
 subst e
 intro j v hv
 exact (cell_of_row _ b (0+0*1+j) _ T (0,0) h).trans (by
  rcases j with _|j
  ·simpa [shpJ] using hv
  ·simp [shpJ] at hv)
set_option maxRecDepth 100000 in
theorem strokeDot_calls (w:World) (v:Value) (cx cy:Int) (sh:Bool) (wd cap join:Int) (hcap:cap=0∨cap=1∨cap=2):Calls Tryz.prog 239 #[.agg #[.int .i64 cx,.int .i64 cy,v,.bool sh],.agg #[.int .i64 wd,.int .i64 cap,.int .i64 join]] w (ShisOut (if cap=1 then [around 1 cx cy wd] else if cap=2 then [around 2 cx cy wd] else []) w):=by
 have hL:=Holds.start w
 rcases hcap with rfl|rfl|rfl
 ·rw [if_neg (by decide),if_neg (by decide)]
  obtain ⟨n1,n2,n3⟩:=tok3
  go_enter Tryz.func239,Tryz.ntmps239
  go_wp2_with (first|(with_reducible first|(clear hL n1;intro b1 w1 hL)|(clear hL n2;intro b2 w2 hL)|(clear hL n3;intro b3 w3 hL))|((with_reducible refine wpA_lit rfl _ _ _ rfl ?_);first|refine litA1 hL ?_|refine litA2 hL ?_|refine litA3 hL ?_|refine litA4 hL ?_|refine litA6 hL ?_)|((with_reducible refine goJ rfl ?_);refine goW ?_))
  go_ret
  exact nilShis hL
 ·rw [if_pos rfl]
  obtain ⟨n1,n2,n3⟩:=tok3
  go_enter Tryz.func239,Tryz.ntmps239
  go_wp2_with (first|(with_reducible first|(clear hL n1;intro b1 w1 hL)|(clear hL n2;intro b2 w2 hL)|(clear hL n3;intro b3 w3 hL))|((with_reducible refine wpA_lit rfl _ _ _ rfl ?_);first|refine litA1 hL ?_|refine litA2 hL ?_|refine litA3 hL ?_|refine litA4 hL ?_|refine litA6 hL ?_)|((with_reducible refine goJ rfl ?_);refine goW ?_))
  go_ret
  exact oneShi hL .here rfl
 ·rw [if_neg (by decide),if_pos rfl]
  obtain ⟨n1,n2,n3⟩:=tok3
  go_enter Tryz.func239,Tryz.ntmps239
  go_wp2_with (first|(with_reducible first|(clear hL n1;intro b1 w1 hL)|(clear hL n2;intro b2 w2 hL)|(clear hL n3;intro b3 w3 hL))|((with_reducible refine wpA_lit rfl _ _ _ rfl ?_);first|refine litA1 hL ?_|refine litA2 hL ?_|refine litA3 hL ?_|refine litA4 hL ?_|refine litA6 hL ?_)|((with_reducible refine goJ rfl ?_);refine goW ?_))
  go_ret
  exact oneShi hL .here rfl
set_option maxRecDepth 100000 in
set_option maxHeartbeats 4000000 in
theorem strokeShapes0 (w:World) (v:Value) (cx cy:Int) (es:List Edg) (sh:Bool) (hv:EdgesAt w v es) (hlen:es.length≤300) (wd cap join:Int) (hcap:cap=0∨cap=1∨cap=2) (hP:(piecesC ⟨cx,cy,es,sh⟩).length=0) :
  Calls Tryz.prog 236 #[.agg #[.int .i64 cx,.int .i64 cy,v,.bool sh],.agg #[.int .i64 wd,.int .i64 cap,.int .i64 join]] w (ShisOut (dotS ⟨cx,cy,es,sh⟩ ⟨wd,cap,join⟩) w):=by
 have Hv:=Lib.hid hv
 obtain ⟨ea,ec,rfl,_⟩:=EdgesAt.parts hv
 clear hv
 have hL:=Holds.start w
 have HPi:=Lib.hid (fun w' (hb:Below w.heap.size w w')=>strokePieces_calls w' (.slice ea es.length ec) ⟨cx,cy,es,sh⟩ (SliceAt.below Hv.out hb) hlen)
 have hP2:=List.length_eq_zero_iff.1 hP
 rw [hP2] at HPi
 have hD:dotS ⟨cx,cy,es,sh⟩ ⟨wd,cap,join⟩=if es.length=0∧sh=false then [] else if cap=1 then [around 1 cx cy wd] else if cap=2 then [around 2 cx cy wd] else []:=rfl
 clear hP hP2
 generalize dotS ⟨cx,cy,es,sh⟩ ⟨wd,cap,join⟩=R at *
 have HDo:=Lib.hid (fun w=>strokeDot_calls w (.slice ea es.length ec) cx cy sh wd cap join hcap)
 generalize (if cap=1 then [around 1 cx cy wd] else if cap=2 then [around 2 cx cy wd] else [])=Q at *
 dsimp only at *
 clear Hv
 generalize es.length=m at *
 by_cases hm:m=0
 ·subst hm
  cases sh with
  | false =>
   rw [if_pos ⟨rfl,rfl⟩] at hD
   subst hD
   obtain ⟨n1,n2,n3⟩:=tok3
   go_enter Tryz.func236,Tryz.ntmps236
   go_wp2_with (first|(go_at_call 238;(with_reducible refine (HPi.out _ hL.below).mono ?_);rintro e _ ⟨vp,rfl,hb,hf⟩;obtain ⟨pa,pc,rfl,_⟩:=EdgesAt.parts hf.now;replace hL:=hL.callF hb hf;clear hb hf)|(with_reducible first|(clear hL n1;intro b1 w1 hL)|(clear hL n2;intro b2 w2 hL))|((with_reducible refine wpA_lit rfl _ _ _ rfl ?_);first|refine litA1 hL ?_|refine litA2 hL ?_|refine litA3 hL ?_|refine litA4 hL ?_|refine litA6 hL ?_)|((with_reducible refine goJ rfl ?_);refine goW ?_))
   go_ret
   exact nilShis hL
  | true =>
   rw [if_neg (by simp)] at hD
   subst hD
   obtain ⟨n1,n2,n3⟩:=tok3
   go_enter Tryz.func236,Tryz.ntmps236
   go_wp2_with (first|(go_at_call 238;(with_reducible refine (HPi.out _ hL.below).mono ?_);rintro e _ ⟨vp,rfl,hb,hf⟩;obtain ⟨pa,pc,rfl,_⟩:=EdgesAt.parts hf.now;replace hL:=hL.callF hb hf;clear hb hf)|(go_at_call 239;(with_reducible refine (HDo.out _).mono ?_);rintro e _ ⟨vd,rfl,hb,hf⟩;replace hL:=hL.callF hb hf;clear hb hf)|(with_reducible first|(clear hL n1;intro b1 w1 hL)|(clear hL n2;intro b2 w2 hL))|((with_reducible refine wpA_lit rfl _ _ _ rfl ?_);first|refine litA1 hL ?_|refine litA2 hL ?_|refine litA3 hL ?_|refine litA4 hL ?_|refine litA6 hL ?_)|((with_reducible refine goJ rfl ?_);refine goW ?_))
   go_ret
   exact ⟨_,rfl,hL.below,hL.fresh⟩
 ·rw [if_neg (fun h=>hm h.1)] at hD
  have hmi:(0:Int)<(m:Int):=by omega
  subst hD
  obtain ⟨n1,n2,n3⟩:=tok3
  go_enter Tryz.func236,Tryz.ntmps236
  go_wp2_with (first|(go_at_call 238;(with_reducible refine (HPi.out _ hL.below).mono ?_);rintro e _ ⟨vp,rfl,hb,hf⟩;obtain ⟨pa,pc,rfl,_⟩:=EdgesAt.parts hf.now;replace hL:=hL.callF hb hf;clear hb hf)|(go_at_call 239;(with_reducible refine (HDo.out _).mono ?_);rintro e _ ⟨vd,rfl,hb,hf⟩;replace hL:=hL.callF hb hf;clear hb hf)|(with_reducible first|(clear hL n1;intro b1 w1 hL)|(clear hL n2;intro b2 w2 hL))|((with_reducible refine wpA_lit rfl _ _ _ rfl ?_);first|refine litA1 hL ?_|refine litA2 hL ?_|refine litA3 hL ?_|refine litA4 hL ?_|refine litA6 hL ?_)|((with_reducible refine goJ rfl ?_);refine goW ?_))
  go_ret
  exact ⟨_,rfl,hL.below,hL.fresh⟩
set_option maxRecDepth 100000 in
set_option maxHeartbeats 8000000 in
theorem strokeShapes1 (w:World) (v:Value) (cx cy:Int) (es:List Edg) (sh:Bool) (hv:EdgesAt w v es) (hlen:es.length≤300) (wd cap join:Int) (hP:(piecesC ⟨cx,cy,es,sh⟩).length≠0) :
  Calls Tryz.prog 236 #[.agg #[.int .i64 cx,.int .i64 cy,v,.bool sh],.agg #[.int .i64 wd,.int .i64 cap,.int .i64 join]] w (ShisOut (shapesL sh ⟨wd,cap,join⟩ (piecesC ⟨cx,cy,es,sh⟩) (piecesC ⟨cx,cy,es,sh⟩).length) w):=by
 have Hv:=Lib.hid hv
 obtain ⟨ea,ec,rfl,_⟩:=EdgesAt.parts hv
 clear hv
 have hL:=Holds.start w
 have hpl:=pieces_len ⟨cx,cy,es,sh⟩
 have HPi:=Lib.hid (fun w' (hb:Below w.heap.size w w')=>strokePieces_calls w' (.slice ea es.length ec) ⟨cx,cy,es,sh⟩ (SliceAt.below Hv.out hb) hlen)
 generalize piecesC ⟨cx,cy,es,sh⟩=P at *
 dsimp only at *
 have hP0:((P.length:Int) == 0)=false:=beq_eq_false_iff_ne.2 (by omega)
 have HSE:Hid (∀ n i e,shapesE sh ⟨wd,cap,join⟩ n i e=[⟨e,wd,(decide (i=0)&&!sh)&&(cap == 2),(decide (i+1=n)&&!sh)&&(cap == 2),0⟩]++((if ((decide (i=0)&&!sh)&&(cap == 1)) || (!(decide (i=0)&&!sh)&&(join == 1)) then [around 1 e.x0 e.y0 wd] else [])++(if (decide (i+1=n)&&!sh)&&(cap == 1) then [around 1 e.x1 e.y1 wd] else []))):=Lib.hid fun n i e=>rfl
 obtain ⟨c2,hc2⟩:∃ c2,(cap == 2)=c2:=⟨_,rfl⟩
 obtain ⟨c1,hc1⟩:∃ c1,(cap == 1)=c1:=⟨_,rfl⟩
 obtain ⟨j1,hj1⟩:∃ j1,(join == 1)=j1:=⟨_,rfl⟩
 rw [hc1,hc2,hj1] at HSE
 obtain ⟨n1,n2⟩:=tok2
 go_enter Tryz.func236,Tryz.ntmps236
 go_wp2_with (first|(go_at_call 238;(with_reducible refine (HPi.out _ hL.below).mono ?_);rintro e _ ⟨vp,rfl,hb,hf⟩;obtain ⟨pa,pc,rfl,_⟩:=EdgesAt.parts hf.now;replace hL:=hL.callF hb hf;clear hb hf)|(with_reducible first|(clear hL n1;intro b1 w1 hL)|(clear hL n2;intro b2 w2 hL))|((with_reducible refine wpA_lit rfl _ _ _ rfl ?_);first|refine litA1 hL ?_|refine litA2 hL ?_|refine litA3 hL ?_|refine litA4 hL ?_|refine litA6 hL ?_)|((with_reducible refine goJ rfl ?_);refine goW ?_))
 go_loopw [6,29] (fun s6 s29 wr=>∃ (k:Nat) (acc:List Shp),k≤P.length∧s29=.int .i64 k∧acc=shapesL sh ⟨wd,cap,join⟩ P k∧Holds w wr [own w.heap.size 280 1 s6 acc.length (acc.map shpJ).flatten,blk b2 #[.int .i64 wd,.int .i64 cap,.int .i64 join] 24,blk b1 #[.int .i64 cx,.int .i64 cy,.slice ea es.length ec,.bool sh] 239] [fun w=>EdgesAt w (.slice pa P.length pc) P])
  (fun s6 s29 wr=>P.length-(intOf s29).toNat)
 case atStart=>exact ⟨0,[],by omega,rfl,rfl,hL.newOwn⟩
 case round =>
  clear hL
  obtain ⟨k,acc,hk,rfl,hacc,hL⟩:=hrel
  obtain ⟨ga,gc,rfl⟩:=own_slice hL .here
  have hal:acc.length≤3*k:=by rw [hacc];exact shapesL_len _ _ _ _
  by_cases hkt:k<P.length
  ·obtain ⟨be,oe,rfl,hc⟩:∃ be oe,pa=some ⟨be,oe,none⟩∧World.rangeAt _ be (oe+k*7) (edgeC (P.getD k default)):=by
    obtain ⟨a',c',he,_,_,hel⟩:=EdgesAt.parts hL.fact0
    injection he with he _ _
    subst he
    exact hel k hkt
   have hkb:(k:Int)<(P.length:Int):=by omega
   have HST:=Lib.hid (shapesL_step sh ⟨wd,cap,join⟩ P k)
   rw [←hacc,HSE.out] at HST
   clear hacc
   generalize P.getD k default=e at *
   have wn:IntKind.i64.wrap ((P.length:Int)-1)=(P.length:Int)-1:=by rw [IntKind.wrap_i64];omega
   obtain ⟨x0,y0,bt,dx,dy,x1,y1⟩:=e
   unfold edgeC at hc
   dsimp only at hc HST
   obtain ⟨fb,hfb⟩:∃ fb,(decide (k=0)&&!sh)=fb:=⟨_,rfl⟩
   obtain ⟨lb,hlb⟩:∃ lb,(decide (k+1=P.length)&&!sh)=lb:=⟨_,rfl⟩
   rw [hfb,hlb] at HST
   have HFB:=Lib.hid hfb
   have HLB:=Lib.hid hlb
   clear hfb hlb
   obtain ⟨n1,n2,n3⟩:=tok3
   clear n1 n2
   go_upto_region 10 with (first|(with_reducible first|(clear hL n3;intro b3 w3 hL)|(clear hL;intro _ hL))|((with_reducible refine wpA_lit rfl _ _ _ rfl ?_);first|refine litA1 hL ?_|refine litA2 hL ?_|refine litA3 hL ?_|refine litA4 hL ?_|refine litA6 hL ?_)|((with_reducible refine goJ rfl ?_);refine goW ?_))
   try simp only [Act.put]
   go_cut [9,10] from 30 to 114 (fun s9 s10 wc=>s9=.bool fb∧s10=.bool lb∧Holds w wc [blk b3 #[.int .i64 x0,.int .i64 y0,.bool bt,.int .i64 dx,.int .i64 dy,.int .i64 x1,.int .i64 y1] 177,own w.heap.size 280 1 (.slice ga acc.length gc) acc.length (acc.map shpJ).flatten,blk b2 #[.int .i64 wd,.int .i64 cap,.int .i64 join] 24,blk b1 #[.int .i64 cx,.int .i64 cy,.slice ea es.length ec,.bool sh] 239] [fun w=>EdgesAt w (.slice (some ⟨be,oe,none⟩) P.length pc) P])
   case first =>
    rcases (by omega:(k=0∧k+1=P.length)∨(k=0∧¬k+1=P.length)∨(¬k=0∧k+1=P.length)∨(¬k=0∧¬k+1=P.length)) with ⟨hk0,hkn⟩|⟨hk0,hkn⟩|⟨hk0,hkn⟩|⟨hk0,hkn⟩
    ·have e0:((k:Int) == 0)=true:=by simp;omega
     have en:((k:Int) == (P.length:Int)-1)=true:=by simp;omega
     have hF:(!sh)=fb:=by rw [←HFB.out];simp [hk0]
     have hG:(!sh)=lb:=by rw [←HLB.out];simp;omega
     have HF:=Lib.hid hF
     have HG:=Lib.hid hG
     clear hF hG hk0 hkn
     replace hL:=hL.drew
     have hS:(fun w':World=>w'.rangeAt b1 0 [.int .i64 cx,.int .i64 cy,.slice ea es.length ec,.bool sh]) _:=hL.range (by (repeat (first|with_reducible exact At.here|with_reducible apply At.there)))
     refine wpH_begin (by kernel_rfl) (fun w':World=>w'.rangeAt b1 0 [.int .i64 cx,.int .i64 cy,.slice ea es.length ec,.bool sh]) ?_
     refine dsH 0 (.int .i64 k) hS ?_
     refine dsH 1 (.bool true) hS ?_
     refine dsH 2 (.bool true) hS ?_
     refine dsH 3 (.pointer (some ⟨b1,3,none⟩)) hS ?_
     refine drH 4 (.bool sh) hS ?_ ?_;(· exact fun w' hw=>(load_cell (hw 3 _ rfl)))
     refine dsH 5 (.bool (!sh)) hS ?_
     refine dsH 6 (.bool (!sh)) hS ?_
     refine dsH 7 (.int .i64 k) hS ?_
     refine dsH 8 (.slice (some ⟨be,oe,none⟩) P.length pc) hS ?_
     refine dsH 9 (.int .i64 (P.length:Int)) hS ?_
     refine dsH 10 (.int .i64 ((P.length:Int)-1)) hS ?_
     refine dsH 11 (.bool true) hS ?_
     refine dsH 12 (.bool true) hS ?_
     refine dsH 13 (.pointer (some ⟨b1,3,none⟩)) hS ?_
     refine drH 14 (.bool sh) hS ?_ ?_;(· exact fun w' hw=>(load_cell (hw 3 _ rfl)))
     refine dsH 15 (.bool (!sh)) hS ?_
     refine dsH 16 (.bool (!sh)) hS ?_
     refine dsH 17 (.bool (!sh)) hS ?_
     refine dsH 18 (.bool (!sh)) hS ?_
     refine wpAnyH_done (by kernel_rfl) ?_ _
     clear hS
     go_wp2
     go_meet
     case rel=>exact ⟨by rw [HF.out],by rw [HG.out],hL⟩
    ·have e0:((k:Int) == 0)=true:=by simp;omega
     have en:((k:Int) == (P.length:Int)-1)=false:=by simp;omega
     have hF:(!sh)=fb:=by rw [←HFB.out];simp [hk0]
     have hG:false=lb:=by rw [←HLB.out];simp;omega
     have HF:=Lib.hid hF
     have HG:=Lib.hid hG
     clear hF hG hk0 hkn
     replace hL:=hL.drew
     have hS:(fun w':World=>w'.rangeAt b1 0 [.int .i64 cx,.int .i64 cy,.slice ea es.length ec,.bool sh]) _:=hL.range (by (repeat (first|with_reducible exact At.here|with_reducible apply At.there)))
     refine wpH_begin (by kernel_rfl) (fun w':World=>w'.rangeAt b1 0 [.int .i64 cx,.int .i64 cy,.slice ea es.length ec,.bool sh]) ?_
     refine dsH 0 (.int .i64 k) hS ?_
     refine dsH 1 (.bool true) hS ?_
     refine dsH 2 (.bool true) hS ?_
     refine dsH 3 (.pointer (some ⟨b1,3,none⟩)) hS ?_
     refine drH 4 (.bool sh) hS ?_ ?_;(· exact fun w' hw=>(load_cell (hw 3 _ rfl)))
     refine dsH 5 (.bool (!sh)) hS ?_
     refine dsH 6 (.bool (!sh)) hS ?_
     refine dsH 7 (.int .i64 k) hS ?_
     refine dsH 8 (.slice (some ⟨be,oe,none⟩) P.length pc) hS ?_
     refine dsH 9 (.int .i64 (P.length:Int)) hS ?_
     refine dsH 10 (.int .i64 ((P.length:Int)-1)) hS ?_
     refine dsH 11 (.bool false) hS ?_
     refine dsH 12 (.bool false) hS ?_
     refine skH (i:=13) hS ?_
     simp only [Act.put,setP]
     refine skH (i:=14) hS ?_
     simp only [Act.put,setP]
     refine skH (i:=15) hS ?_
     simp only [Act.put,setP]
     refine dsH 16 (.bool false) hS ?_
     refine dsH 17 (.bool (!sh)) hS ?_
     refine dsH 18 (.bool false) hS ?_
     refine wpAnyH_done (by kernel_rfl) ?_ _
     clear hS
     go_wp2
     go_meet
     case rel=>exact ⟨by rw [HF.out],by rw [HG.out],hL⟩
    ·have e0:((k:Int) == 0)=false:=by simp;omega
     have en:((k:Int) == (P.length:Int)-1)=true:=by simp;omega
     have hF:false=fb:=by rw [←HFB.out];simp [hk0]
     have hG:(!sh)=lb:=by rw [←HLB.out];simp;omega
     have HF:=Lib.hid hF
     have HG:=Lib.hid hG
     clear hF hG hk0 hkn
     replace hL:=hL.drew
     have hS:(fun w':World=>w'.rangeAt b1 0 [.int .i64 cx,.int .i64 cy,.slice ea es.length ec,.bool sh]) _:=hL.range (by (repeat (first|with_reducible exact At.here|with_reducible apply At.there)))
     refine wpH_begin (by kernel_rfl) (fun w':World=>w'.rangeAt b1 0 [.int .i64 cx,.int .i64 cy,.slice ea es.length ec,.bool sh]) ?_
     refine dsH 0 (.int .i64 k) hS ?_
     refine dsH 1 (.bool false) hS ?_
     refine dsH 2 (.bool false) hS ?_
     refine skH (i:=3) hS ?_
     simp only [Act.put,setP]
     refine skH (i:=4) hS ?_
     simp only [Act.put,setP]
     refine skH (i:=5) hS ?_
     simp only [Act.put,setP]
     refine dsH 6 (.bool false) hS ?_
     refine dsH 7 (.int .i64 k) hS ?_
     refine dsH 8 (.slice (some ⟨be,oe,none⟩) P.length pc) hS ?_
     refine dsH 9 (.int .i64 (P.length:Int)) hS ?_
     refine dsH 10 (.int .i64 ((P.length:Int)-1)) hS ?_
     refine dsH 11 (.bool true) hS ?_
     refine dsH 12 (.bool true) hS ?_
     refine dsH 13 (.pointer (some ⟨b1,3,none⟩)) hS ?_
     refine drH 14 (.bool sh) hS ?_ ?_;(· exact fun w' hw=>(load_cell (hw 3 _ rfl)))
     refine dsH 15 (.bool (!sh)) hS ?_
     refine dsH 16 (.bool (!sh)) hS ?_
     refine dsH 17 (.bool false) hS ?_
     refine dsH 18 (.bool (!sh)) hS ?_
     refine wpAnyH_done (by kernel_rfl) ?_ _
     clear hS
     go_wp2
     go_meet
     case rel=>exact ⟨by rw [HF.out],by rw [HG.out],hL⟩
    ·have e0:((k:Int) == 0)=false:=by simp;omega
     have en:((k:Int) == (P.length:Int)-1)=false:=by simp;omega
     have hF:false=fb:=by rw [←HFB.out];simp [hk0]
     have hG:false=lb:=by rw [←HLB.out];simp;omega
     have HF:=Lib.hid hF
     have HG:=Lib.hid hG
     clear hF hG hk0 hkn
     replace hL:=hL.drew
     have hS:(fun w':World=>w'.rangeAt b1 0 [.int .i64 cx,.int .i64 cy,.slice ea es.length ec,.bool sh]) _:=hL.range (by (repeat (first|with_reducible exact At.here|with_reducible apply At.there)))
     refine wpH_begin (by kernel_rfl) (fun w':World=>w'.rangeAt b1 0 [.int .i64 cx,.int .i64 cy,.slice ea es.length ec,.bool sh]) ?_
     refine dsH 0 (.int .i64 k) hS ?_
     refine dsH 1 (.bool false) hS ?_
     refine dsH 2 (.bool false) hS ?_
     refine skH (i:=3) hS ?_
     simp only [Act.put,setP]
     refine skH (i:=4) hS ?_
     simp only [Act.put,setP]
     refine skH (i:=5) hS ?_
     simp only [Act.put,setP]
     refine dsH 6 (.bool false) hS ?_
     refine dsH 7 (.int .i64 k) hS ?_
     refine dsH 8 (.slice (some ⟨be,oe,none⟩) P.length pc) hS ?_
     refine dsH 9 (.int .i64 (P.length:Int)) hS ?_
     refine dsH 10 (.int .i64 ((P.length:Int)-1)) hS ?_
     refine dsH 11 (.bool false) hS ?_
     refine dsH 12 (.bool false) hS ?_
     refine skH (i:=13) hS ?_
     simp only [Act.put,setP]
     refine skH (i:=14) hS ?_
     simp only [Act.put,setP]
     refine skH (i:=15) hS ?_
     simp only [Act.put,setP]
     refine dsH 16 (.bool false) hS ?_
     refine dsH 17 (.bool false) hS ?_
     refine dsH 18 (.bool false) hS ?_
     refine wpAnyH_done (by kernel_rfl) ?_ _
     clear hS
     go_wp2
     go_meet
     case rel=>exact ⟨by rw [HF.out],by rw [HG.out],hL⟩
   case rest =>
    clear hL
    obtain ⟨rfl,rfl,hL⟩:=hcut
    clear HFB HLB
    obtain ⟨pc1,hpc1⟩:∃ q:Shp,(⟨⟨x0,y0,bt,dx,dy,x1,y1⟩,wd,fb&&c2,lb&&c2,0⟩:Shp)=q:=⟨_,rfl⟩
    rw [hpc1] at HST
    have HPC:=Lib.hid hpc1
    clear hpc1
    go_upto_region 11 with (fail)
    go_cut [6] from 30 to 114 (fun s6 wc=>Holds w wc [blk b3 #[.int .i64 x0,.int .i64 y0,.bool bt,.int .i64 dx,.int .i64 dy,.int .i64 x1,.int .i64 y1] 177,own w.heap.size 280 1 s6 (acc.length+1) ((acc++[pc1]).map shpJ).flatten,blk b2 #[.int .i64 wd,.int .i64 cap,.int .i64 join] 24,blk b1 #[.int .i64 cx,.int .i64 cy,.slice ea es.length ec,.bool sh] 239] [fun w=>EdgesAt w (.slice (some ⟨be,oe,none⟩) P.length pc) P])
    case first =>
     cases fb <;> cases lb
     all_goals
      have n3:True:=trivial
      go_wp2_with (first|(with_reducible first|(clear hL;intro _ _ _ hL;try dsimp only at hL)|(clear hL n3;intro b3 w3 hL))|((with_reducible refine wpA_lit rfl _ _ _ rfl ?_);first|refine litA1 hL ?_|refine litA2 hL ?_|refine litA3 hL ?_|refine litA4 hL ?_|refine litA6 hL ?_)|((with_reducible refine goJ rfl ?_);refine goW ?_))
      go_meet
      case rel =>
       rw [←HPC.out,shpJ_snoc]
       exact hL
    case rest =>
     clear hL
     have hL:=hcut
     clear hcut HPC
     obtain ⟨g4,c4,rfl⟩:=own_slice hL (.there .here)
     obtain ⟨db,hdb⟩:∃ db,((fb&&c1) || (!fb&&j1))=db:=⟨_,rfl⟩
     rw [hdb] at HST
     have HDB:=Lib.hid hdb
     clear hdb
     go_upto_region 12 with (fail)
     go_cut [85] from 30 to 114 (fun s85 wc=>s85=.bool db∧Holds w wc [blk b3 #[.int .i64 x0,.int .i64 y0,.bool bt,.int .i64 dx,.int .i64 dy,.int .i64 x1,.int .i64 y1] 177,own w.heap.size 280 1 (.slice g4 (acc.length+1) c4) (acc.length+1) ((acc++[pc1]).map shpJ).flatten,blk b2 #[.int .i64 wd,.int .i64 cap,.int .i64 join] 24,blk b1 #[.int .i64 cx,.int .i64 cy,.slice ea es.length ec,.bool sh] 239] [fun w=>EdgesAt w (.slice (some ⟨be,oe,none⟩) P.length pc) P])
     case first =>
      cases fb
      ·go_wp2_with (first|(with_reducible first|(clear hL;intro _ _ _ hL;try dsimp only at hL)|(clear hL n3;intro b3 w3 hL))|((with_reducible refine wpA_lit rfl _ _ _ rfl ?_);first|refine litA1 hL ?_|refine litA2 hL ?_|refine litA3 hL ?_|refine litA4 hL ?_|refine litA6 hL ?_)|((with_reducible refine goJ rfl ?_);refine goW ?_))
       go_meet
       case rel=>exact ⟨by rw [←HDB.out];simp,hL⟩
      ·cases c1
       ·go_wp2_with (first|(with_reducible first|(clear hL;intro _ _ _ hL;try dsimp only at hL)|(clear hL n3;intro b3 w3 hL))|((with_reducible refine wpA_lit rfl _ _ _ rfl ?_);first|refine litA1 hL ?_|refine litA2 hL ?_|refine litA3 hL ?_|refine litA4 hL ?_|refine litA6 hL ?_)|((with_reducible refine goJ rfl ?_);refine goW ?_))
        go_meet
        case rel=>exact ⟨by rw [←HDB.out];simp,hL⟩
       ·go_wp2_with (first|(with_reducible first|(clear hL;intro _ _ _ hL;try dsimp only at hL)|(clear hL n3;intro b3 w3 hL))|((with_reducible refine wpA_lit rfl _ _ _ rfl ?_);first|refine litA1 hL ?_|refine litA2 hL ?_|refine litA3 hL ?_|refine litA4 hL ?_|refine litA6 hL ?_)|((with_reducible refine goJ rfl ?_);refine goW ?_))
        go_meet
        case rel=>exact ⟨by rw [←HDB.out];simp,hL⟩
     case rest =>
      clear hL HDB
      obtain ⟨rfl,hL⟩:=hcut
      go_upto_if 85 with (fail)
      go_cut [6] from 30 to 114 (fun s6 wc=>Holds w wc [blk b3 #[.int .i64 x0,.int .i64 y0,.bool bt,.int .i64 dx,.int .i64 dy,.int .i64 x1,.int .i64 y1] 177,own w.heap.size 280 1 s6 (acc.length+1+(if db then [around 1 x0 y0 wd] else []).length) ((acc++[pc1]).map shpJ++(if db then [around 1 x0 y0 wd] else []).map shpJ).flatten,blk b2 #[.int .i64 wd,.int .i64 cap,.int .i64 join] 24,blk b1 #[.int .i64 cx,.int .i64 cy,.slice ea es.length ec,.bool sh] 239] [fun w=>EdgesAt w (.slice (some ⟨be,oe,none⟩) P.length pc) P])
      case first =>
       cases db
       ·go_wp2_with (first|(with_reducible first|(clear hL;intro _ _ _ hL;try dsimp only at hL)|(clear hL n3;intro b3 w3 hL))|((with_reducible refine wpA_lit rfl _ _ _ rfl ?_);first|refine litA1 hL ?_|refine litA2 hL ?_|refine litA3 hL ?_|refine litA4 hL ?_|refine litA6 hL ?_)|((with_reducible refine goJ rfl ?_);refine goW ?_))
        go_meet
        case rel=>simpa using hL
       ·have n3:True:=trivial
        go_wp2_with (first|(with_reducible first|(clear hL;intro _ _ _ hL;try dsimp only at hL)|(clear hL n3;intro b3 w3 hL))|((with_reducible refine wpA_lit rfl _ _ _ rfl ?_);first|refine litA1 hL ?_|refine litA2 hL ?_|refine litA3 hL ?_|refine litA4 hL ?_|refine litA6 hL ?_)|((with_reducible refine goJ rfl ?_);refine goW ?_))
        go_meet
        case rel =>
         rw [List.flatten_append]
         exact hL
      case rest =>
       clear hL
       have hL:=hcut
       clear hcut
       rw [←List.map_append] at hL
       have hD1:(if db then [around 1 x0 y0 wd] else []).length≤1:=by split <;> simp
       generalize (if db then [around 1 x0 y0 wd] else [])=D1 at *
       obtain ⟨g5,c5,rfl⟩:=own_slice hL (.there .here)
       have n3:True:=trivial
       cases lb
       ·go_wp2_with (first|(with_reducible first|(clear hL;intro _ _ _ hL;try dsimp only at hL)|(clear hL n3;intro b3 w3 hL))|((with_reducible refine wpA_lit rfl _ _ _ rfl ?_);first|refine litA1 hL ?_|refine litA2 hL ?_|refine litA3 hL ?_|refine litA4 hL ?_|refine litA6 hL ?_)|((with_reducible refine goJ rfl ?_);refine goW ?_))
        go_roundw
        case rel =>
         refine ⟨k+1,acc++[pc1]++D1,by omega,by go_num,by rw [HST.out];simp,?_⟩
         rw [show (acc++[pc1]++D1).length=acc.length+1+D1.length by simp;omega]
         exact hL.drop .here
        case measure=>simp [intOf];omega
       ·cases c1
        ·go_wp2_with (first|(with_reducible first|(clear hL;intro _ _ _ hL;try dsimp only at hL)|(clear hL n3;intro b3 w3 hL))|((with_reducible refine wpA_lit rfl _ _ _ rfl ?_);first|refine litA1 hL ?_|refine litA2 hL ?_|refine litA3 hL ?_|refine litA4 hL ?_|refine litA6 hL ?_)|((with_reducible refine goJ rfl ?_);refine goW ?_))
         go_roundw
         case rel =>
          refine ⟨k+1,acc++[pc1]++D1,by omega,by go_num,by rw [HST.out];simp,?_⟩
          rw [show (acc++[pc1]++D1).length=acc.length+1+D1.length by simp;omega]
          exact hL.drop .here
         case measure=>simp [intOf];omega
        ·go_wp2_with (first|(with_reducible first|(clear hL;intro _ _ _ hL;try dsimp only at hL)|(clear hL n3;intro b3 w3 hL))|((with_reducible refine wpA_lit rfl _ _ _ rfl ?_);first|refine litA1 hL ?_|refine litA2 hL ?_|refine litA3 hL ?_|refine litA4 hL ?_|refine litA6 hL ?_)|((with_reducible refine goJ rfl ?_);refine goW ?_))
         go_roundw
         case rel =>
          refine ⟨k+1,acc++[pc1]++D1++[around 1 x1 y1 wd],by omega,by go_num,by rw [HST.out];simp,?_⟩
          rw [show (acc++[pc1]++D1++[around 1 x1 y1 wd]).length=acc.length+1+D1.length+1 by simp;omega,shpJ_snoc]
          exact hL.drop .here
         case measure=>simp [intOf];omega
  ·have e:k=P.length:=by omega
   subst e
   have HA:=Lib.hid hacc
   clear hacc
   go_wp2_with (first|(with_reducible first|(clear hL;intro _ _ _ hL;try dsimp only at hL)|(clear hL n3;intro b3 w3 hL))|((with_reducible refine wpA_lit rfl _ _ _ rfl ?_);first|refine litA1 hL ?_|refine litA2 hL ?_|refine litA3 hL ?_|refine litA4 hL ?_|refine litA6 hL ?_)|((with_reducible refine goJ rfl ?_);refine goW ?_))
   go_ret
   rw [←HA.out]
   exact ⟨_,rfl,hL.below,(hL.settle .here (φ:=fun w=>ShisAt w (.slice ga acc.length gc) acc) fun w h=>own_sliceAt h (by rw [List.length_map]) rfl (shpJ_len _)).fresh⟩
open Go.RowKit
theorem strokeShapes_calls (w:World) (v:Value) (c:Ct) (hv:EdgesAt w v c.edges) (hlen:c.edges.length≤300) (s:Sty) (hs:mayY s=true) :
  Calls Tryz.prog 236 #[.agg #[.int .i64 c.x,.int .i64 c.y,v,.bool c.shut],.agg #[.int .i64 s.wide,.int .i64 s.cap,.int .i64 s.join]] w (ShisOut (shapesC s c) w):=by
 obtain ⟨h1,h2,h3,h4,h5,h6⟩:=mayY_bd hs
 obtain ⟨cx,cy,es,sh⟩:=c
 obtain ⟨wd,cap,join⟩:=s
 dsimp only at *
 unfold shapesC
 by_cases h0:(piecesC ⟨cx,cy,es,sh⟩).length=0
 ·rw [if_pos h0,h0,show shapesL sh ⟨wd,cap,join⟩ (piecesC ⟨cx,cy,es,sh⟩) 0=[] from rfl,List.append_nil]
  exact strokeShapes0 w v cx cy es sh hv hlen wd cap join (by omega) h0
 ·rw [if_neg h0,List.nil_append]
  exact strokeShapes1 w v cx cy es sh hv hlen wd cap join h0
set_option maxRecDepth 100000 in
set_option maxHeartbeats 4000000 in
theorem strokeAll_calls (w:World) (v:Value) (l:List Sg) (hv:SegsAt w v l) (s:Sty) (hs:mayY s=true):Calls Tryz.prog 233 #[v,.agg #[.int .i64 s.wide,.int .i64 s.cap,.int .i64 s.join]] w (ShisOut (allS l s) w):=by
 have Hv:=Lib.hid hv
 obtain ⟨a,cap,rfl,hlc,hcm,hel⟩:=hv.parts
 clear hv hel
 unfold maxLen at hcm
 have hL:=Holds.start w
 have HR:=Lib.hid (show allS l s=((contoursS l).take (contoursS l).length).flatMap (shapesC s) by rw [List.take_length];rfl)
 have hlS:=allS_len l s
 have hW:=contours_weight l
 have hC:=contours_len l
 have Hc:∀ w':World,Below w.heap.size w w'→Calls Tryz.prog 194 #[.slice a l.length cap] w' (CtsOut (contoursS l) w'):=fun w' hb=>contours_calls w' _ l (SliceAt.below Hv.out hb)
 have HC:=Lib.hid Hc
 clear Hc
 have HPre:=Lib.hid (show ∀ k,(((contoursS l).take k).flatMap (shapesC s)).length≤900 from fun k=>by
  have h1:=shapes_weight s ((contoursS l).take k)
  have h2:((contoursS l).map ctW).sum=(((contoursS l).take k).map ctW).sum+(((contoursS l).drop k).map ctW).sum:=by
   rw [←List.sum_append,←List.map_append,List.take_append_drop]
  omega)
 generalize allS l s=L at *
 generalize contoursS l=cts at *
 have HW:=Lib.hid (ct_edges_len hW)
 clear hW
 have HSh:=Lib.hid (fun w v c hv hlen=>strokeShapes_calls w v c hv hlen s hs)
 have n1:True:=trivial
 go_enter Tryz.func233,Tryz.ntmps233
 go_wp2_with (first|(go_at_call 194;(with_reducible refine (HC.out _ hL.below).mono ?_);rintro e _ ⟨vc,vs,rfl,hvl,hb,hf⟩;obtain ⟨sa,sc,rfl⟩:∃ sa sc,vc=.slice sa cts.length sc:=(by obtain ⟨h1,_⟩:=hf.now;obtain ⟨a,c,h,_⟩:=h1;refine ⟨a,c,?_⟩;rw [h,List.length_zipWith,hvl,Nat.min_self]);replace hL:=hL.callF hb hf;clear hb hf)|(with_reducible (clear hL n1;intro b1 w1 hL))|((with_reducible refine goJ rfl ?_);refine goW ?_))
 go_loopw [5,11] (fun s5 s11 wr=>∃ (k:Nat) (acc:List Shp),k≤cts.length∧s11=.int .i64 k∧acc=(cts.take k).flatMap (shapesC s)∧Holds w wr [own w.heap.size 280 1 s5 acc.length (acc.map shpJ).flatten,blk b1 #[.int .i64 s.wide,.int .i64 s.cap,.int .i64 s.join] 24] [fun w=>CtsAt w (.slice sa cts.length sc) vs cts])
  (fun s5 s11 wr=>cts.length-(intOf s11).toNat)
 case atStart=>exact ⟨0,[],by omega,rfl,by simp,hL.newOwn⟩
 case round =>
  clear hL
  obtain ⟨k,acc,hk,rfl,hacc,hL⟩:=hrel
  have hal:acc.length≤900:=by rw [hacc];exact HPre.out k
  by_cases hkt:k<cts.length
  ·have hnext:=take_shapes s cts k hkt
   rw [←hacc] at hnext
   have hcl:=HW.out (cts.getD k default) (by rw [show cts.getD k default=cts[k] by simp [hkt]];exact List.getElem_mem hkt)
   have hsl:(shapesC s (cts.getD k default)).length≤903:=by
    have:=shapesC_len s (cts.getD k default)
    unfold ctW at this
    omega
   have hget:∃ bx ox u,sa=some ⟨bx,ox,none⟩∧vs[k]?=some u∧wr.rangeAt bx (ox+k*4) (ctC u (cts.getD k default)):=by
    obtain ⟨⟨a',c',he,_,_,h5⟩,_⟩:=hL.fact0
    injection he with he _ _
    subst he
    have hzl:(List.zipWith ctC vs cts).length=cts.length:=by rw [List.length_zipWith,hvl,Nat.min_self]
    obtain ⟨bx,ox,e,hr⟩:=h5 k (by omega)
    obtain ⟨u,hu,hz⟩:=zip_get vs cts hvl k hkt
    rw [hz (by omega)] at hr
    exact ⟨bx,ox,u,e,hu,hr⟩
   obtain ⟨bx,ox,u,rfl,hu,hc⟩:=hget
   have hkb:(k:Int)<(cts.length:Int):=by omega
   replace hL:=(hL.dup).map (χ:=fun w=>EdgesAt w u (cts.getD k default).edges) fun w h=>h.2 k u hu
   have HN:=Lib.hid hnext
   clear hnext hu hacc
   generalize cts.getD k default=c at *
   have HSc:=Lib.hid (fun w hv=>HSh.out w u c hv hcl)
   clear hcl
   generalize shapesC s c=SC at *
   obtain ⟨cx,cy,ces,csh⟩:=c
   unfold ctC at hc
   dsimp only at hc hL HSc
   obtain ⟨ea,ec,rfl,_⟩:=EdgesAt.parts hL.fact0
   obtain ⟨g3,c3,rfl⟩:=own_slice hL .here
   obtain ⟨n1,n2,n3⟩:=tok3
   clear n1
   go_wp2_with (first|(go_at_call 236;(with_reducible refine (HSc.out _ hL.fact0).mono ?_);rintro e _ ⟨vsh,rfl,hb,hf⟩;replace hL:=hL.callF hb hf;clear hb hf)|((with_reducible refine wpA_append rfl _ _ _ rfl vsh rfl ?_);intro vq hvq;simp [go_sem] at hvq;subst hvq;refine appendSi hL.fact0 hL ?_;clear hL;intro ve2 _ hL)|(with_reducible first|(clear hL n2;intro b2 w2 hL)|(clear hL;intro _ hL))|((with_reducible refine goJ rfl ?_);refine goW ?_))
   go_roundw
   case rel =>
    refine ⟨k+1,acc++SC,by omega,by go_num,HN.out.symm,?_⟩
    rw [List.length_append,List.map_append,List.flatten_append]
    exact ((hL.drop .here).forget).forget
   case measure=>simp [intOf];omega
  ·have e:k=cts.length:=by omega
   subst e
   have HA:=Lib.hid (show L=acc by rw [hacc,HR.out])
   clear hacc
   obtain ⟨g,oc,rfl⟩:=own_slice hL .here
   go_wp2_with (first|(with_reducible first|(clear hL;intro _ _ _ hL;try dsimp only at hL)|(clear hL n1;intro b1 w1 hL)|(clear hL n2;intro b2 w2 hL)|(clear hL n3;intro b3 w3 hL)|(clear hL;intro _ _ hL)|(clear hL;intro _ hL))|((with_reducible refine goJ rfl ?_);refine goW ?_))
   go_ret
   rw [HA.out]
   exact ⟨_,rfl,hL.below,(hL.settle .here (φ:=fun w=>ShisAt w (.slice g acc.length oc) acc) fun w h=>own_sliceAt h (by rw [List.length_map]) rfl (shpJ_len _)).fresh⟩
theorem covers_calls (s:Shp) (hg:GoodS s) (x y:Int) (hx : -8191≤x∧x≤8191) (hy : -8191≤y∧y≤8191) :
  ∃ (T : Nat) (f : Nat) (v : Value), shpI s = .iface T v ∧ (∀ (n : Nat) (w : World), (method (n + 1) T v "tympan/stroke.covers").run Tryz.prog w = .ok (f, v) w) ∧ (∀ a b w, (callFunc f #[v, a, b]).run Tryz.prog w = .ok (.enter f #[v, a, b]) w) ∧
   ∀ w,Calls Tryz.prog f #[v,.int .i64 x,.int .i64 y] w fun e w'=>e=.returned (.bool (covS s x y))∧Below w.heap.size w w':=by
 obtain ⟨⟨x0,y0,bt,cx,cy,x1,y1⟩,wide,f,l,k⟩:=s
 obtain ⟨⟨⟨h1,h2⟩,h3,h4⟩,hw,hk⟩:=hg
 dsimp only at *
 rcases (by omega:k=0∨k=1∨k=2) with rfl|rfl|rfl
 ·exact ⟨_,_,_,rfl,fun _ _=>by kernel_rfl,fun _ _ _=>by kernel_rfl,fun w=>strokePiece_calls x0 y0 bt cx cy x1 y1 wide f l x y h1 h2 h3 h4 hw hx hy w⟩
 ·exact ⟨_,_,_,rfl,fun _ _=>by kernel_rfl,fun _ _ _=>by kernel_rfl,fun w=>strokeDisc_calls x0 y0 bt cx cy x1 y1 wide f l x y h1 h2 hw hx hy w⟩
 ·exact ⟨_,_,_,rfl,fun _ _=>by kernel_rfl,fun _ _ _=>by kernel_rfl,fun w=>strokeSquare_calls x0 y0 bt cx cy x1 y1 wide f l x y h1 h2 hw hx hy w⟩
set_option maxRecDepth 100000 in
set_option maxHeartbeats 4000000 in
theorem covered_calls (w:World) (v:Value) (L:List Shp) (hv:ShisAt w v L) (hg:∀ s∈L,GoodS s) (x y:Int) (hx : -8191≤x∧x≤8191) (hy : -8191≤y∧y≤8191) :
  Calls Tryz.prog 234 #[v,.int .i64 x,.int .i64 y] w fun e w'=>e=.returned (.bool (covL L x y))∧Below w.heap.size w w':=by
 obtain ⟨a,cap,rfl,hlc,hcm,hel⟩:=hv.parts
 clear hv
 unfold maxLen at hcm
 have Hel:=Lib.hid hel;clear hel
 have HG:=Lib.hid hg;clear hg
 have hL:=Holds.start w
 have HCL:=Lib.hid (show covL L x y=covL (L.take L.length) x y by rw [List.take_length])
 have HYes:=Lib.hid (show ∀ k,k<L.length→covS (L.getD k default) x y=true→covL L x y=true from fun k hk h=>by
  unfold covL
  rw [List.any_eq_true]
  exact ⟨L.getD k default,by rw [show L.getD k default=L[k] by simp [hk]];exact List.getElem_mem hk,h⟩)
 generalize covL L x y=R at *
 go_enter Tryz.func234,Tryz.ntmps234
 go_wp2_with (first|((with_reducible refine goJ rfl ?_);refine goW ?_))
 go_loopw [11] (fun s11 wr=>∃ k:Nat,k≤L.length∧s11=.int .i64 k∧covL (L.take k) x y=false∧Holds w wr [] [])
  (fun s11 wr=>L.length-(intOf s11).toNat)
 case atStart=>exact ⟨0,by omega,rfl,rfl,hL⟩
 case round =>
  clear hL
  obtain ⟨k,hk,rfl,hno,hL⟩:=hrel
  by_cases hkt:k<L.length
  ·obtain ⟨b,o,rfl,hc⟩:=Hel.out k hkt
   have hkb:(k:Int)<(L.length:Int):=by omega
   have hgs:=HG.out (L.getD k default) (by rw [show L.getD k default=L[k] by simp [hkt]];exact List.getElem_mem hkt)
   have HST:=Lib.hid (show covS (L.getD k default) x y=false→covL (L.take (k+1)) x y=false by
    intro h
    rw [List.take_succ_eq_append_getElem hkt]
    unfold covL at hno ⊢
    rw [List.any_append,hno]
    simp [hkt] at h
    simp [h])
   have HY:=Lib.hid (HYes.out k hkt)
   obtain ⟨T,f,v,hvi,hmeth,hent,hcall⟩:=covers_calls (L.getD k default) hgs x y hx hy
   clear hgs hno
   generalize covS (L.getD k default) x y=cv at *
   rw [hvi] at hc
   clear hvi
   have HC:=Lib.hid hcall
   clear hcall
   cases cv
   ·have HN:=Lib.hid (HST.out rfl)
    clear HST HY
    go_wp2_with (first|((with_reducible refine (HC.out _).mono ?_);rintro e _ ⟨rfl,hb⟩;replace hL:=hL.call hb;clear hb)|((with_reducible refine goJ rfl ?_);refine goW ?_))
    go_roundw
    case rel=>exact ⟨k+1,by omega,by go_num,HN.out,hL⟩
    case measure=>simp [intOf];omega
   ·have HA:=Lib.hid (HY.out rfl)
    clear HST HY
    go_wp2_with (first|((with_reducible refine (HC.out _).mono ?_);rintro e _ ⟨rfl,hb⟩;replace hL:=hL.call hb;clear hb)|((with_reducible refine goJ rfl ?_);refine goW ?_))
    go_ret
    exact ⟨ret_bool HA.out.symm,hL.below⟩
  ·have e:k=L.length:=by omega
   subst e
   have HA:=Lib.hid (HCL.out.trans hno)
   clear hno
   go_wp2_with (first|((with_reducible refine goJ rfl ?_);refine goW ?_))
   go_ret
   exact ⟨ret_bool HA.out.symm,hL.below⟩
set_option maxRecDepth 100000 in
set_option maxHeartbeats 4000000 in
theorem strokePlain_calls (w:World) (v:Value) (l:List Sg) (hv:SegsAt w v l):Calls Tryz.prog 232 #[v] w fun e w'=>e=.returned (.bool (straightS l))∧Below w.heap.size w w':=by
 have Hv:=Lib.hid hv
 obtain ⟨a,cap,rfl,hlc,hcm,hel⟩:=hv.parts
 clear hv
 unfold maxLen at hcm
 have Hel:=Lib.hid hel;clear hel
 have hL:=Holds.start w
 have HNo:=Lib.hid (show ∀ k,k<l.length→(l.getD k default).kind=3→straightS l=false by
  intro k hk h
  have:(l.all fun s=>decide (s.kind≠3))=false:=by
   rw [List.all_eq_false]
   refine ⟨l[k],List.getElem_mem hk,?_⟩
   rw [show l[k]=l.getD k default by simp [hk],h];simp
  unfold straightS
  rw [this];simp)
 have HYes:=Lib.hid (show (∀ i,i<l.length→(l.getD i default).kind≠3)→straightS l=pathMay l by
  intro h
  have:(l.all fun s=>decide (s.kind≠3))=true:=by
   rw [List.all_eq_true]
   intro x hx
   obtain ⟨i,hi,rfl⟩:=List.getElem_of_mem hx
   have:=h i hi
   rw [show l.getD i default=l[i] by simp [hi]] at this
   simpa using this
  unfold straightS
  rw [this,Bool.and_true])
 have HPm:=Lib.hid (fun w' (hb:Below w.heap.size w w')=>pathMay_calls w' (.slice a l.length cap) l (SliceAt.below Hv.out hb))
 generalize straightS l=st at *
 generalize pathMay l=pm at *
 go_enter Tryz.func232,Tryz.ntmps232
 go_wp2_with (first|(with_reducible first|(clear hL;intro _ _ hL)|(clear hL;intro _ hL))|((with_reducible refine goJ rfl ?_);refine goW ?_))
 go_loopw [7] (fun s7 wr=>∃ k:Nat,k≤l.length∧s7=.int .i64 k∧(∀ i,i<k→(l.getD i default).kind≠3)∧Holds w wr [] [])
  (fun s7 wr=>l.length-(intOf s7).toNat)
 case atStart=>exact ⟨0,by omega,rfl,fun i hi=>absurd hi (by omega),hL⟩
 case round =>
  clear hL
  obtain ⟨k,hk,rfl,hall,hL⟩:=hrel
  by_cases hkt:k<l.length
  ·obtain ⟨b,o,rfl,hc⟩:=Hel.out k hkt
   have hkb:(k:Int)<(l.length:Int):=by omega
   have HN:=Lib.hid (HNo.out k hkt)
   have HST:=Lib.hid (show (l.getD k default).kind≠3→∀ i,i<k+1→(l.getD i default).kind≠3 from fun h i hi=>by
    rcases (by omega:i<k∨i=k) with h2|rfl
    ·exact hall i h2
    ·exact h)
   clear hall
   generalize l.getD k default=q at *
   obtain ⟨kind,x,y,cx,cy⟩:=q
   unfold segC at hc
   dsimp only at hc HN HST
   by_cases h3:kind=3
   ·have HF:=Lib.hid (HN.out h3)
    subst h3
    obtain ⟨n1,n2⟩:=tok2
    clear n1
    go_wp2_with (first|(with_reducible first|(clear hL n2;intro b2 w2 hL)|(clear hL;intro _ hL))|((with_reducible refine goJ rfl ?_);refine goW ?_))
    go_ret
    exact ⟨ret_bool HF.out.symm,hL.below⟩
   ·have HS3:=Lib.hid (HST.out h3)
    have e3:(kind == 3)=false:=by simp [h3]
    clear h3
    obtain ⟨n1,n2⟩:=tok2
    clear n1
    go_wp2_with (first|(with_reducible first|(clear hL n2;intro b2 w2 hL)|(clear hL;intro _ hL))|((with_reducible refine goJ rfl ?_);refine goW ?_))
    go_roundw
    case rel=>exact ⟨k+1,by omega,by go_num,HS3.out,hL.drop .here⟩
    case measure=>simp [intOf];omega
  ·have e:k=l.length:=by omega
   subst e
   have HF:=Lib.hid (HYes.out hall)
   clear hall
   go_wp2_with (go_at_call 45;(with_reducible refine (HPm.out _ hL.below).mono ?_);rintro e _ ⟨rfl,hb⟩;replace hL:=hL.call hb;clear hb)
   go_ret
   exact ⟨ret_bool HF.out.symm,hL.below⟩
open Go.RowKit
def strokeP (l:List Sg) (s:Sty) (j i:Nat):Bool:=covL (allS l s) (16*(i:Int)+8) (16*(j:Int)+8)
set_option maxRecDepth 100000 in
set_option maxHeartbeats 8000000 in
theorem strokeMask_calls {W H:Nat} (hs:Sides W H) (w:World) (v:Value) (l:List Sg) (hv:SegsAt w v l) (hst:straightS l=true) (s:Sty) (hm:mayY s=true) :
  Calls Tryz.prog 229 #[v,.agg #[.int .i64 s.wide,.int .i64 s.cap,.int .i64 s.join],.int .i64 W,.int .i64 H] w (MaskOut W H (strokeP l s) w):=by
 have Hv:=Lib.hid hv
 obtain ⟨a,cap,rfl,_⟩:=hv.parts
 clear hv
 obtain ⟨m1,m2,m3⟩:=mask_bounds hs
 have hw0:=hs.w0;have hw1:=hs.w1;have hh0:=hs.h0;have hh1:=hs.h1
 have hgood:=allS_good (s:=s) (show pathMay l=true by unfold straightS at hst;simp at hst;exact hst.1) hm
 have HPl:=Lib.hid (fun w' (hb:Below w.heap.size w w')=>strokePlain_calls w' (.slice a l.length cap) l (SliceAt.below Hv.out hb))
 have HMy:=Lib.hid (fun w=>strokeMay_calls s w)
 rw [hst] at HPl
 rw [hm] at HMy
 have HA:=Lib.hid (fun w' (hb:Below w.heap.size w w')=>strokeAll_calls w' (.slice a l.length cap) l (SliceAt.below Hv.out hb) s hm)
 have hi:∀ w' ve (j i:Nat),ShisAt w' ve (allS l s)∧j<64∧i<64→Calls Tryz.prog 234 #[ve,.int .i64 (16*(i:Int)+8),.int .i64 (16*(j:Int)+8)] w' fun r w''=>r=.returned (.bool (strokeP l s j i))∧Below w'.heap.size w' w'':=fun w' ve j i hv=>covered_calls w' ve (allS l s) hv.1 hgood _ _ (by omega) (by omega)
 generalize allS l s=L at *
 generalize strokeP l s=p at *
 clear hst hm hgood
 have hL:=Holds.start w
 have hwr:IntKind.i64.wrap ((W:Int)*(H:Int))=(W:Int)*(H:Int):=by rw [IntKind.wrap_i64];omega
 have g0:¬(W:Int)<1:=by omega
 have g1:¬(64:Int)<(W:Int):=by omega
 have g2:¬(H:Int)<1:=by omega
 have g3:¬(64:Int)<(H:Int):=by omega
 obtain ⟨n1,n2,n3,n4⟩:=tok4
 go_enter Tryz.func229,Tryz.ntmps229
 go_wp2_with (first|(go_at_call 232;(with_reducible refine (HPl.out _ hL.below).mono ?_);rintro e _ ⟨rfl,hb⟩;replace hL:=hL.call hb;clear hb)|(go_at_call 48;(with_reducible refine (HMy.out _).mono ?_);rintro e _ ⟨rfl,hb⟩;replace hL:=hL.call hb;clear hb)|((with_reducible refine wpA_make rfl _ _ _ rfl _ rfl rfl ?_);refine makeU (W*H) (by omega) (by simp) hL ?_)|(go_at_call 233;(with_reducible refine (HA.out _ hL.below).mono ?_);rintro e _ ⟨ve,rfl,hb,hf⟩;obtain ⟨va,vc,rfl,_⟩:=ShisAt.parts hf.now;replace hL:=hL.callF hb hf;clear hb hf)|(with_reducible first|(clear hL n1;intro b1 w1 hL)|(clear hL n2;intro b2 w2 hL)|(clear hL n3;intro b3 w3 hL)|(clear hL n4;intro b4 w4 hL)|(clear hL;intro _ hL))|((with_reducible refine goJ rfl ?_);refine goW ?_))
 rw [show arrU (W*H) (fun _=>0)=arrU (W*H) (partF (fun i=>p (i / W) (i%W)) 0) from arrU_congr fun x _=>by simp [partF]] at hL
 generalize L.length=vn at *
 go_loopw [51] (fun s51 wr=>∃ k:Nat,k≤W*H∧s51=.int .i64 k∧Holds w wr [blk b4 #[.int .i64 W,.int .i64 H,.slice (some ⟨b3,0,none⟩) (W*H) (W*H)] 86,blk b3 (arrU (W*H) (partF (fun i=>p (i / W) (i%W)) k)) 5,blk b2 #[.int .i64 0,.int .i64 0,.slice none 0 0] 86,blk b1 #[.int .i64 s.wide,.int .i64 s.cap,.int .i64 s.join] 24] [fun w=>ShisAt w (.slice va vn vc) L])
  (fun s51 wr=>W*H-(intOf s51).toNat)
 case atStart=>exact ⟨0,by omega,rfl,hL⟩
 case round =>
  clear hL
  obtain ⟨k,hk,rfl,hL⟩:=hrel
  by_cases hkt:k<W*H
  ·have hkb:(k:Int)<((W*H:Nat):Int):=by omega
   have hkw:(k:Int)<(W:Int)*(H:Int):=by rw [←Int.natCast_mul];omega
   have hR0:k / W<H:=Nat.div_lt_of_lt_mul hkt
   have hC0:k%W<W:=Nat.mod_lt k (by omega)
   have hrem:(k:Int).tmod (W:Int)=((k%W:Nat):Int):=by rw [Int.tmod_eq_emod_of_nonneg (by omega)];simp
   have hquo:(k:Int).tdiv (W:Int)=((k / W:Nat):Int):=by rw [Int.tdiv_eq_ediv_of_nonneg (by omega)];simp
   have HI:=Lib.hid (fun w' ve (j i:Nat) (h:j<64) (h2:i<64) hv=>hi w' ve j i ⟨hv,h,h2⟩)
   have hpk:(fun i=>p (i / W) (i%W)) k=p (k / W) (k%W):=rfl
   generalize (fun i=>p (i / W) (i%W))=q at *
   generalize k / W=R at *
   generalize k%W=C at *
   have HI2:=Lib.hid (fun w' ve hv=>HI.out w' ve R C (by omega) (by omega) hv)
   clear HI hi
   have zW:¬W=0:=by omega
   have z0:((W:Int) == 0)=false:=beq_eq_false_iff_ne.2 (by omega)
   have z1:((W:Int) == -1)=false:=beq_eq_false_iff_ne.2 (by omega)
   have wC:IntKind.i64.wrap (C:Int)=(C:Int):=by rw [IntKind.wrap_i64];omega
   have wR:IntKind.i64.wrap (R:Int)=(R:Int):=by rw [IntKind.wrap_i64];omega
   have wC2:IntKind.i64.wrap (16*(C:Int))=16*(C:Int):=by rw [IntKind.wrap_i64];omega
   have wR2:IntKind.i64.wrap (16*(R:Int))=16*(R:Int):=by rw [IntKind.wrap_i64];omega
   have wC3:IntKind.i64.wrap (16*(C:Int)+8)=16*(C:Int)+8:=by rw [IntKind.wrap_i64];omega
   have wR3:IntKind.i64.wrap (16*(R:Int)+8)=16*(R:Int)+8:=by rw [IntKind.wrap_i64];omega
   rw [←hpk] at HI2
   cases hp:q k with
   | true =>
    have Hp:=Lib.hid hp
    clear hp
    go_wp2_with (first|(with_reducible (clear hL;intro _ hL))|((with_reducible refine goJ rfl ?_);refine goW ?_))
    replace hL:=hL.drew
    have hS:(fun _:World=>True) w:=trivial
    refine wpH_begin (by kernel_rfl) (fun _:World=>True) ?_
    refine dsH 0 (.slice va vn vc) hS ?_
    refine dsH 1 (.int .i64 (k:Int)) hS ?_
    refine dsH 2 (.int .i64 (W:Int)) hS ?_
    refine dsH 3 (.int .i64 (C:Int)) hS ?_
    refine dsH 4 (.int .i64 (16*(C:Int))) hS ?_
    refine dsH 5 (.int .i64 (16*(C:Int)+8)) hS ?_
    refine dsH 6 (.int .i64 (k:Int)) hS ?_
    refine dsH 7 (.int .i64 (W:Int)) hS ?_
    refine dsH 8 (.int .i64 (R:Int)) hS ?_
    refine dsH 9 (.int .i64 (16*(R:Int))) hS ?_
    refine dsH 10 (.int .i64 (16*(R:Int)+8)) hS ?_
    refine wpH_one (i:=11) (by kernel_rfl) (wpOf ?_)
    refine st_call rfl 234 #[.slice va vn vc,.int .i64 (16*(C:Int)+8),.int .i64 (16*(R:Int)+8)] (by go_simp) (HI2.out _ _ hL.fact0) ?_
    rintro e _ ⟨rfl,hb⟩
    rw [Hp.out]
    replace hL:=hL.call hb
    clear hb
    refine ⟨_,rfl,hS,?_⟩
    simp only [Act.put,setP]
    refine wpAnyH_done (by kernel_rfl) ?_ _
    clear hS
    go_wp2_with (first|(with_reducible (clear hL;intro _ hL))|((with_reducible refine goJ rfl ?_);refine goW ?_))
    go_roundw
    case rel =>
     rw [partF_set _ _ _ Hp.out] at hL
     exact ⟨k+1,by omega,by go_num,hL⟩
    case measure=>simp [intOf];omega
   | false =>
    have Hp:=Lib.hid hp
    clear hp
    go_wp2_with (first|(with_reducible (clear hL;intro _ hL))|((with_reducible refine goJ rfl ?_);refine goW ?_))
    replace hL:=hL.drew
    have hS:(fun _:World=>True) w:=trivial
    refine wpH_begin (by kernel_rfl) (fun _:World=>True) ?_
    refine dsH 0 (.slice va vn vc) hS ?_
    refine dsH 1 (.int .i64 (k:Int)) hS ?_
    refine dsH 2 (.int .i64 (W:Int)) hS ?_
    refine dsH 3 (.int .i64 (C:Int)) hS ?_
    refine dsH 4 (.int .i64 (16*(C:Int))) hS ?_
    refine dsH 5 (.int .i64 (16*(C:Int)+8)) hS ?_
    refine dsH 6 (.int .i64 (k:Int)) hS ?_
    refine dsH 7 (.int .i64 (W:Int)) hS ?_
    refine dsH 8 (.int .i64 (R:Int)) hS ?_
    refine dsH 9 (.int .i64 (16*(R:Int))) hS ?_
    refine dsH 10 (.int .i64 (16*(R:Int)+8)) hS ?_
    refine wpH_one (i:=11) (by kernel_rfl) (wpOf ?_)
    refine st_call rfl 234 #[.slice va vn vc,.int .i64 (16*(C:Int)+8),.int .i64 (16*(R:Int)+8)] (by go_simp) (HI2.out _ _ hL.fact0) ?_
    rintro e _ ⟨rfl,hb⟩
    rw [Hp.out]
    replace hL:=hL.call hb
    clear hb
    refine ⟨_,rfl,hS,?_⟩
    simp only [Act.put,setP]
    refine wpAnyH_done (by kernel_rfl) ?_ _
    clear hS
    go_wp2_with (first|(with_reducible (clear hL;intro _ hL))|((with_reducible refine goJ rfl ?_);refine goW ?_))
    go_roundw
    case rel =>
     rw [partF_skip _ _ _ Hp.out] at hL
     exact ⟨k+1,by omega,by go_num,hL⟩
    case measure=>simp [intOf];omega
  ·have e:k=W*H:=by omega
   subst e
   go_wp2_with (first|(with_reducible (clear hL;intro _ hL))|((with_reducible refine goJ rfl ?_);refine goW ?_))
   refine bodyPost_ret (results_row2 inferInstance rfl _ hL b2 rfl _ _ (.there (.there .here)) rfl) rfl ⟨some ⟨b3,0,none⟩,rfl,hL.below,?_⟩
   refine ((hL.settle (.there .here) (φ:=fun w=>w.heap[b3]?=some (.cells (arrU (W*H) (partF (fun i=>p (i / W) (i%W)) (W*H))) 5 (0,0))) fun _ h=>h).map fun w' h1=>?_).fresh
   refine ⟨_,rfl,?_⟩
   have:=bytes_of h1 (by unfold maxLen;omega)
   rw [show (List.range (W*H)).map (partF (fun i=>p (i / W) (i%W)) (W*H))=(pixMask W H p).B from ?_] at this
   ·exact this
   ·refine List.map_congr_left fun x hx=>?_
    have hx:x<W*H:=by simpa using hx
    simp [partF,hx,bit]
end Go.Proofs.YtmnoeoecjfhhbaaGreat
