/- The document's: a crossing's side. -/
import Derived.Test.YtmnoeoecjfhhbaaGreatBowM
import Derived.Laws.MathBits
namespace Go.Proofs.YtmnoeoecjfhhbaaGreat
open Go.RowKit
theorem and_low (z:Int):bits .and .u64 (z%18446744073709551616) 4294967295=z%18446744073709551616%4294967296 :=
 and_low32 _ (Int.emod_nonneg _ (by omega)) (Int.emod_lt_of_pos _ (by omega))
theorem or_low (z y:Int):bits .or .u64 (z*4294967296%18446744073709551616) (y%4294967296)=z%4294967296*4294967296+y%4294967296:=by
 have h1:z*4294967296%18446744073709551616=z%4294967296*4294967296:=by omega
 have a0:=Int.emod_nonneg z (show (4294967296:Int)≠0 by omega)
 have a1:=Int.emod_lt_of_pos z (show (0:Int)<4294967296 by omega)
 have b0:=Int.emod_nonneg y (show (4294967296:Int)≠0 by omega)
 have b1:=Int.emod_lt_of_pos y (show (0:Int)<4294967296 by omega)
 rw [h1]
 generalize z%4294967296=a at *
 generalize y%4294967296=b at *
 obtain ⟨m,rfl⟩:=Int.eq_ofNat_of_zero_le a0
 obtain ⟨n,rfl⟩:=Int.eq_ofNat_of_zero_le b0
 rw [u64_or _ _ (by omega) (by omega) (by omega) (by omega)]
 have e1:((m:Int)*4294967296).toNat=2^32*m:=by omega
 rw [e1,Int.toNat_natCast,←Nat.two_pow_add_eq_or_of_lt (i:=32) (by omega)]
 omega
theorem mul64_lo (x y:Int) (hx0:0≤x) (hx:x<18446744073709551616) (hy0:0≤y) (hy:y<18446744073709551616) :
  (((x%4294967296*(y / 4294967296))%18446744073709551616 +
   (((x / 4294967296*(y%4294967296))%18446744073709551616+((x%4294967296*(y%4294967296))%18446744073709551616) / 4294967296)%18446744073709551616)%4294967296)%18446744073709551616)%4294967296*4294967296 +
   ((x%4294967296*(y%4294967296))%18446744073709551616)%4294967296=x*y%18446744073709551616:=by
 have ex:x=x / 4294967296*4294967296+x%4294967296:=by omega
 have ey:y=y / 4294967296*4294967296+y%4294967296:=by omega
 generalize hx1:x / 4294967296=x1 at *
 generalize hx0':x%4294967296=x0 at *
 generalize hy1:y / 4294967296=y1 at *
 generalize hy0':y%4294967296=y0 at *
 have b1:0≤x1∧x1≤4294967295:=by omega
 have b2:0≤x0∧x0≤4294967295:=by omega
 have b3:0≤y1∧y1≤4294967295:=by omega
 have b4:0≤y0∧y0≤4294967295:=by omega
 have pA:=prod_bound x1 y1 b1.1 b1.2 b3.1 b3.2
 have pB:=prod_bound x1 y0 b1.1 b1.2 b4.1 b4.2
 have pC:=prod_bound x0 y0 b2.1 b2.2 b4.1 b4.2
 have pD:=prod_bound x0 y1 b2.1 b2.2 b3.1 b3.2
 have hxy:x*y=x1*y1*18446744073709551616+(x1*y0+x0*y1)*4294967296+x0*y0:=by rw [ex,ey];exact split_mul x1 x0 y1 y0
 rw [hxy]
 generalize x1*y1=A at *
 generalize x1*y0=B at *
 generalize x0*y0=C at *
 generalize x0*y1=D at *
 omega
theorem ret_two {a b c d:Int} (h:a=c) (k:b=d):Ending.returned (.agg #[.int .u64 a,.int .u64 b])=.returned (.agg #[.int .u64 c,.int .u64 d]):=by rw [h,k]
theorem ret_pair {a b c d:Int} {i j:IntKind} (h:a=c) (k:b=d):Ending.returned (.tuple #[.int i a,.int j b])=.returned (.tuple #[.int i c,.int j d]):=by rw [h,k]
set_option maxRecDepth 100000 in
set_option maxHeartbeats 1000000 in
theorem times_calls (a b:Int) (ha0:0≤a) (ha:a<18446744073709551616) (hb0:0≤b) (hb:b<18446744073709551616) (w:World):Calls Tryz.prog 160 #[.int .u64 a,.int .u64 b] w fun e w'=>e=.returned (.agg #[.int .u64 (a*b / 18446744073709551616),.int .u64 (a*b%18446744073709551616)])∧Below w.heap.size w w':=by
 have hL:=Holds.start w
 have n1:True:=trivial
 go_enter Tryz.func160,Tryz.ntmps160
 go_wp2_with (first|(with_reducible first|(clear hL n1;intro b1 w1 hL)|(clear hL;intro _ hL))|((with_reducible refine goJ rfl ?_);refine goW ?_))
 refine bodyPost_ret (results_row inferInstance rfl _ hL b1 rfl _ _ .here rfl) rfl ⟨ret_two ?_ ?_,hL.below⟩
 ·simp only [and_low32 a ha0 ha,and_low32 b hb0 hb,IntKind.wrap_u64,and_low]
  rw [←mul64_arith a b ha0 ha hb0 hb]
  omega
 ·simp only [and_low32 a ha0 ha,and_low32 b hb0 hb,IntKind.wrap_u64,and_low]
  rw [or_low,←mul64_lo a b ha0 ha hb0 hb]
def absI (a:Int):Int:=if a<0 then -a else a
theorem refAbs_calls (a:Int) (h0 : -9223372036854775807≤a) (h1:a≤9223372036854775807) (w:World):Calls Tryz.prog 161 #[.int .i64 a] w fun e w'=>e=.returned (.int .u64 (absI a))∧w=w':=by
 rcases (by omega:a<0∨¬a<0) with h|h
 ·go_enter Tryz.func161,Tryz.ntmps161
  go_wp2
  go_ret
  exact ⟨ret_int (by unfold absI;split <;> (try simp only [IntKind.wrap_u64,IntKind.wrap_i64]) <;> omega),rfl⟩
 ·go_enter Tryz.func161,Tryz.ntmps161
  go_wp2
  go_ret
  exact ⟨ret_int (by unfold absI;split <;> omega),rfl⟩
theorem wideSize_calls (a:Int) (h0 : -9223372036854775807≤a) (h1:a≤9223372036854775807) (w:World):Calls Tryz.prog 224 #[.int .i64 a] w fun e w'=>e=.returned (.int .u64 (absI a))∧w=w':=by
 rcases (by omega:a<0∨¬a<0) with h|h
 ·go_enter Tryz.func224,Tryz.ntmps224
  go_wp2
  go_ret
  exact ⟨ret_int (by unfold absI;split <;> (try simp only [IntKind.wrap_u64,IntKind.wrap_i64]) <;> omega),rfl⟩
 ·go_enter Tryz.func224,Tryz.ntmps224
  go_wp2
  go_ret
  exact ⟨ret_int (by unfold absI;split <;> omega),rfl⟩
open Go.RowKit
theorem product_arith {a1 a0 b1 b0 p0 p1 p2 p3 x y:Int} (hx:x=a1*4294967296+a0) (hy:y=b1*4294967296+b0) (h0:p0=a0*b0) (h1:p1=a1*b0) (h2:p2=a0*b1) (h3:p3=a1*b1):x*y=p3*18446744073709551616+(p1+p2)*4294967296+p0:=by
 subst hx hy h0 h1 h2 h3
 exact split_mul a1 a0 b1 b0
set_option maxRecDepth 100000 in
set_option maxHeartbeats 4000000 in
theorem product_calls (a b:Int) (ha0:0≤a) (ha:a<18446744073709551616) (hb0:0≤b) (hb:b<18446744073709551616) (w:World):Calls Tryz.prog 223 #[.int .u64 a,.int .u64 b] w fun e w'=>e=.returned (.tuple #[.int .u64 (a*b / 18446744073709551616),.int .u64 (a*b%18446744073709551616)])∧Below w.heap.size w w':=by
 have hL:=Holds.start w
 have ea:=and_low32 a ha0 ha
 have eb:=and_low32 b hb0 hb
 have ex:a=a / 4294967296*4294967296+a%4294967296:=by omega
 have ey:b=b / 4294967296*4294967296+b%4294967296:=by omega
 have b1':0≤a / 4294967296∧a / 4294967296≤4294967295:=by omega
 have b2':0≤a%4294967296∧a%4294967296≤4294967295:=by omega
 have b3':0≤b / 4294967296∧b / 4294967296≤4294967295:=by omega
 have b4':0≤b%4294967296∧b%4294967296≤4294967295:=by omega
 obtain ⟨qA0,qA⟩:=prod_bound _ _ b1'.1 b1'.2 b3'.1 b3'.2
 obtain ⟨qB0,qB⟩:=prod_bound _ _ b1'.1 b1'.2 b4'.1 b4'.2
 obtain ⟨qC0,qC⟩:=prod_bound _ _ b2'.1 b2'.2 b4'.1 b4'.2
 obtain ⟨qD0,qD⟩:=prod_bound _ _ b2'.1 b2'.2 b3'.1 b3'.2
 have eB:=and_low32 _ qB0 (by omega)
 have eC:=and_low32 _ qC0 (by omega)
 have eD:=and_low32 _ qD0 (by omega)
 have HX:=Lib.hid (product_arith ex ey rfl rfl rfl rfl)
 clear ex ey b1' b2' b3' b4'
 have n1:True:=trivial
 go_enter Tryz.func223,Tryz.ntmps223
 go_wp2_with (first|(with_reducible first|(clear hL n1;intro b1 w1 hL)|(clear hL;intro _ hL))|((with_reducible refine goJ rfl ?_);refine goW ?_))
 rename_i wk K0 a0
 generalize a%4294967296*(b%4294967296)=p0 at *
 generalize a / 4294967296*(b%4294967296)=p1 at *
 generalize a%4294967296*(b / 4294967296)=p2 at *
 generalize a / 4294967296*(b / 4294967296)=p3 at *
 have hmid:0≤p0 / 4294967296+p1%4294967296+p2%4294967296∧p0 / 4294967296+p1%4294967296+p2%4294967296<18446744073709551616:=by omega
 have HM:Hid (∀ mid,mid=p0 / 4294967296+p1%4294967296+p2%4294967296→p3+p1 / 4294967296+p2 / 4294967296+mid / 4294967296=a*b / 18446744073709551616∧mid%4294967296*4294967296+p0%4294967296=a*b%18446744073709551616):=Lib.hid (fun mid h=>by
  rw [HX.out];omega)
 have hsmall:a*b<340282366920938463463374607431768211456:=by
  have:=mul_bd (a:=a) (b:=b) (A:=18446744073709551615) (B:=18446744073709551615) (by omega) (by omega) (by omega) (by omega)
  omega
 have hhi:0≤p3+p1 / 4294967296+p2 / 4294967296+(p0 / 4294967296+p1%4294967296+p2%4294967296) / 4294967296∧p3+p1 / 4294967296+p2 / 4294967296+(p0 / 4294967296+p1%4294967296+p2%4294967296) / 4294967296<18446744073709551616:=by
  have:=HX.out
  omega
 have HMm:=HM.out _ rfl
 generalize p0 / 4294967296+p1%4294967296+p2%4294967296=mid at *
 obtain ⟨hi1,hi2⟩:=HMm
 have HI1:=Lib.hid hi1
 have HI2:=Lib.hid hi2
 clear hi1 hi2 HM HX hsmall
 have hw1:IntKind.u64.wrap (p3+p1 / 4294967296)=p3+p1 / 4294967296:=by rw [IntKind.wrap_u64];omega
 have hw2:IntKind.u64.wrap (p3+p1 / 4294967296+p2 / 4294967296)=p3+p1 / 4294967296+p2 / 4294967296:=by rw [IntKind.wrap_u64];omega
 have hw3:IntKind.u64.wrap (p3+p1 / 4294967296+p2 / 4294967296+mid / 4294967296)=p3+p1 / 4294967296+p2 / 4294967296+mid / 4294967296:=by rw [IntKind.wrap_u64];omega
 have hK:=(Holds.start wk).drew
 have r0:wk.cell? ⟨b1,0,none⟩=some (.int .u64 p0):=(hL.cell .here).trans rfl
 have r1:wk.cell? ⟨b1,1,none⟩=some (.int .u64 p1):=(hL.cell .here).trans rfl
 have r2:wk.cell? ⟨b1,2,none⟩=some (.int .u64 p2):=(hL.cell .here).trans rfl
 have r3:wk.cell? ⟨b1,3,none⟩=some (.int .u64 p3):=(hL.cell .here).trans rfl
 refine wpH_begin (by kernel_rfl) (fun w'=>Below wk.heap.size wk w') ?_
 refine dsH 0 (.pointer (some ⟨b1,3,none⟩)) hK.below ?_
 refine drH 1 (.int .u64 p3) hK.below ?_ ?_;(· exact fun w' hw=>(load_cell (cell_later hw r3)))
 refine dsH 2 (.pointer (some ⟨b1,1,none⟩)) hK.below ?_
 refine drH 3 (.int .u64 p1) hK.below ?_ ?_;(· exact fun w' hw=>(load_cell (cell_later hw r1)))
 refine dsH 4 (.int .u64 (p1 / 4294967296)) hK.below ?_
 refine dsH 5 (.int .u64 (p3+p1 / 4294967296)) hK.below ?_
 refine dsH 6 (.pointer (some ⟨b1,2,none⟩)) hK.below ?_
 refine drH 7 (.int .u64 p2) hK.below ?_ ?_;(· exact fun w' hw=>(load_cell (cell_later hw r2)))
 as_aux_lemma =>
  refine dsH 8 (.int .u64 (p2 / 4294967296)) hK.below ?_
  refine dsH 9 (.int .u64 (p3+p1 / 4294967296+p2 / 4294967296)) hK.below ?_
  refine dsH 10 (.int .u64 mid) hK.below ?_
  refine dsH 11 (.int .u64 (mid / 4294967296)) hK.below ?_
  refine dsH 12 (.int .u64 (p3+p1 / 4294967296+p2 / 4294967296+mid / 4294967296)) hK.below ?_
  refine dsH 13 (.int .u64 mid) hK.below ?_
  refine dsH 14 (.int .u64 (IntKind.u64.wrap (mid*4294967296))) hK.below ?_
  refine dsH 15 (.pointer (some ⟨b1,0,none⟩)) hK.below ?_
  as_aux_lemma =>
   refine drH 16 (.int .u64 p0) hK.below ?_ ?_;(· exact fun w' hw=>(load_cell (cell_later hw r0)))
   refine dsH 17 (.int .u64 (p0%4294967296)) hK.below ?_
   refine dsH 18 (.int .u64 (bits .or .u64 (IntKind.u64.wrap (mid*4294967296)) (p0%4294967296))) hK.below ?_
   refine dsH 19 (.int .u64 (p3+p1 / 4294967296+p2 / 4294967296+mid / 4294967296)) hK.below ?_
   refine dsH 20 (.int .u64 (bits .or .u64 (IntKind.u64.wrap (mid*4294967296)) (p0%4294967296))) hK.below ?_
   refine wpAnyH_done (by kernel_rfl) ?_ _
   go_wp2
   go_ret2
   exact ⟨ret_pair HI1.out (by rw [IntKind.wrap_u64,or_low,HI2.out]),hL.below.trans (hK.below.mono hL.size)⟩
theorem absI_nn (a:Int):0≤absI a:=by unfold absI;split <;> omega
theorem absI_bd {a:Int} (h0 : -9223372036854775807≤a) (h1:a≤9223372036854775807):absI a<18446744073709551616:=by unfold absI;split <;> omega
theorem absI_mul {a b:Int} (h:(a<0 ↔ b<0)∨a=0∨b=0):absI a*absI b=a*b:=by
 unfold absI
 rcases (by omega:a<0∨a=0∨0<a) with ha|ha|ha <;> rcases (by omega:b<0∨b=0∨0<b) with hb|hb|hb
 all_goals first|(subst ha;simp)|(subst hb;simp)|(exfalso;omega)|(simp only [ha,hb,if_true];grind)|(rw [if_neg (by omega),if_neg (by omega)])
theorem mul_calls (a b:Int) (ha0 : -9223372036854775807≤a) (ha:a≤9223372036854775807) (hb0 : -9223372036854775807≤b) (hb:b≤9223372036854775807) (hs:(a<0∧b<0)∨(0≤a∧0≤b)) (w:World) :
  Calls Tryz.prog 222 #[.int .i64 a,.int .i64 b] w fun e w'=>e=.returned (.tuple #[.int .i64 (a*b / 18446744073709551616),.int .u64 (a*b%18446744073709551616)])∧Below w.heap.size w w':=by
 have hL:=Holds.start w
 have hm:absI a*absI b=a*b:=absI_mul (by omega)
 have hP:=fun w=>product_calls (absI a) (absI b) (absI_nn a) (absI_bd ha0 ha) (absI_nn b) (absI_bd hb0 hb) w
 rw [hm] at hP
 have HP:=Lib.hid hP
 have hbig:=mul_bd (a:=absI a) (b:=absI b) (A:=9223372036854775807) (B:=9223372036854775807) (by have:=absI_nn a;omega) (by unfold absI;split <;> omega) (by have:=absI_nn b;omega) (by unfold absI;split <;> omega)
 have hnn:0≤a*b:=by rw [←hm];exact Int.mul_nonneg (absI_nn a) (absI_nn b)
 rw [hm] at hbig
 clear hP hm
 generalize a*b=z at *
 have hz:0≤z / 18446744073709551616∧z / 18446744073709551616≤4611686018427387904:=by omega
 obtain ⟨hz0,hz1⟩:=hz
 generalize z / 18446744073709551616=hi at *
 generalize z%18446744073709551616=lo at *
 have de:(!decide (a<0) == decide (b<0))=false:=by
  rcases hs with ⟨s1,s2⟩|⟨s1,s2⟩
  ·simp [s1,s2]
  ·have t1:¬a<0:=by omega
   have t2:¬b<0:=by omega
   simp [t1,t2]
 clear hs
 all_goals
  go_enter Tryz.func222,Tryz.ntmps222
  go_wp2_with (first|(go_at_call 224;(with_reducible refine (wideSize_calls _ (by omega) (by omega) _).mono ?_);rintro e _ ⟨rfl,rfl⟩)|(go_at_call 223;(with_reducible refine (HP.out _).mono ?_);rintro e _ ⟨rfl,hb⟩;replace hL:=hL.call hb;clear hb))
  go_ret2
  exact ⟨ret_pair (by first|rfl|(simp only [IntKind.wrap_i64];omega)|omega) rfl,hL.below⟩
def cmpI (x y:Int):Int:=if x<y then -1 else if x=y then 0 else 1
theorem wideCmp_calls (a b c d:Int) (ha0 : -9223372036854775807≤a) (ha:a≤9223372036854775807) (hb0 : -9223372036854775807≤b) (hb:b≤9223372036854775807) (hs:(a<0∧b<0)∨(0≤a∧0≤b))
  (hc0 : -9223372036854775807≤c) (hc:c≤9223372036854775807) (hd0 : -9223372036854775807≤d) (hd:d≤9223372036854775807) (ht:(c<0∧d<0)∨(0≤c∧0≤d)) (w:World) :
  Calls Tryz.prog 221 #[.int .i64 a,.int .i64 b,.int .i64 c,.int .i64 d] w fun e w'=>e=.returned (.int .i64 (cmpI (a*b) (c*d)))∧Below w.heap.size w w':=by
 have hL:=Holds.start w
 have HA:=Lib.hid (fun w=>mul_calls a b ha0 ha hb0 hb hs w)
 have HC:=Lib.hid (fun w=>mul_calls c d hc0 hc hd0 hd ht w)
 have HR:=Lib.hid (show ∀ x y:Int,cmpI x y=if x / 18446744073709551616<y / 18446744073709551616∨(x / 18446744073709551616=y / 18446744073709551616∧x%18446744073709551616<y%18446744073709551616) then -1 else if x / 18446744073709551616=y / 18446744073709551616∧x%18446744073709551616=y%18446744073709551616 then 0 else 1 from fun x y=>by
  unfold cmpI
  (repeat' split) <;> omega)
 have hR:=HR.out (a*b) (c*d)
 have HQ:=Lib.hid hR
 clear hR HR
 clear hs ht ha0 ha hb0 hb hc0 hc hd0 hd
 generalize cmpI (a*b) (c*d)=r at *
 generalize a*b / 18446744073709551616=h1 at *
 generalize a*b%18446744073709551616=l1 at *
 generalize c*d / 18446744073709551616=h2 at *
 generalize c*d%18446744073709551616=l2 at *
 go_enter Tryz.func221,Tryz.ntmps221
 go_wp2_with (go_at_call 222;(first|((with_reducible refine (HA.out _).mono ?_);rintro e _ ⟨rfl,hb⟩;replace hL:=hL.call hb;clear hb)|((with_reducible refine (HC.out _).mono ?_);rintro e _ ⟨rfl,hb⟩;replace hL:=hL.call hb;clear hb)))
 all_goals
  go_ret
  refine ⟨ret_int ?_,hL.below⟩
  rw [HQ.out]
  try simp only [beq_iff_eq,beq_eq_false_iff_ne,ne_eq] at *
  (repeat' split) <;> omega
open Go.RowKit
def sgR (p q d:Int):Int:=if sgn p=0∨sgn p=sgn q*sgn d then sgn q*sgn d else if sgn q*sgn d=0 then sgn p else sgn p*cmpI (p*p) (q*q*d)
theorem sgR_eq (p q d:Int):sgR p q d=if sgn p=0∨sgn p=sgn q*sgn d then sgn q*sgn d else if sgn q*sgn d=0 then sgn p else sgn p*cmpI (p*p) (q*q*d):=rfl
theorem sgn_bd (p:Int) : -1≤sgn p∧sgn p≤1:=by unfold sgn;(repeat' split) <;> omega
theorem cmpI_bd (x y:Int) : -1≤cmpI x y∧cmpI x y≤1:=by unfold cmpI;(repeat' split) <;> omega
theorem mul1_bd {a b:Int} (ha : -1≤a∧a≤1) (hb : -1≤b∧b≤1) : -1≤a*b∧a*b≤1:=mul_bd (A:=1) (B:=1) (by omega) (by omega) (by omega) (by omega)
theorem ret_ib {a b:Int} {c:Bool} (h:a=b):Ending.returned (.tuple #[.int .i64 a,.bool c])=.returned (.tuple #[.int .i64 b,.bool c]):=by rw [h]
theorem rootMay_calls (q d:Int) (hq0 : -2147483648≤q) (hq:q≤2147483648) (hd0:0≤d) (hd:d≤2147483648) (w:World):Calls Tryz.prog 213 #[.int .i64 q,.int .i64 d] w fun e w'=>e=.returned (.bool true)∧w=w':=by
 go_enter Tryz.func213,Tryz.ntmps213
 go_wp2
 go_ret
 exact ⟨rfl,rfl⟩
structure Fit (p q d:Int):Prop where
 p0 : -4611686018427387904≤p
 p1:p≤4611686018427387904
 q0 : -2147483648≤q
 q1:q≤2147483648
 d0:0≤d
 d1:d≤2147483648
theorem sq_bd {q:Int} (h0 : -2147483648≤q) (h1:q≤2147483648):0≤q*q∧q*q≤4611686018427387904:=by
 refine ⟨?_,(mul_bd (A:=2147483648) (B:=2147483648) h0 h1 h0 h1).2⟩
 rcases (by omega:0≤q∨q<0) with h|h
 ·exact Int.mul_nonneg h h
 ·exact Int.le_of_lt (Int.mul_pos_of_neg_of_neg h h)
set_option maxRecDepth 100000 in
set_option maxHeartbeats 1000000 in
theorem rootSign_calls (p q d:Int) (hf:Fit p q d) (w:World):Calls Tryz.prog 214 #[.int .i64 p,.int .i64 q,.int .i64 d] w fun e w'=>e=.returned (.tuple #[.int .i64 (sgR p q d),.bool true])∧Below w.heap.size w w':=by
 obtain ⟨p0,p1,q0,q1,d0,d1⟩:=hf
 have hL:=Holds.start w
 obtain ⟨k1,k2⟩:=sq_bd q0 q1
 have HC:=Lib.hid (fun w=>wideCmp_calls p p (q*q) d (by omega) (by omega) (by omega) (by omega) (by omega) (by omega) (by omega) (by omega) (by omega) (by omega) w)
 have HM:=Lib.hid (fun w=>rootMay_calls q d q0 q1 d0 d1 w)
 obtain ⟨m1,m2⟩:=mul1_bd (sgn_bd q) (sgn_bd d)
 obtain ⟨m3,m4⟩:=mul1_bd (sgn_bd p) (cmpI_bd (p*p) (q*q*d))
 have HP:=Lib.hid (fun w=>rootSgn_calls p w)
 have HQ:=Lib.hid (fun w=>rootSgn_calls q w)
 have HD:=Lib.hid (fun w=>rootSgn_calls d w)
 have HR:=Lib.hid (sgR_eq p q d)
 generalize sgR p q d=R at *
 have hb1:=sgn_bd p
 generalize sgn p=a at *
 generalize sgn q=x at *
 generalize sgn d=y at *
 generalize cmpI (p*p) (q*q*d)=r at *
 obtain ⟨hb1,hb2⟩:=hb1
 go_enter Tryz.func214,Tryz.ntmps214
 go_wp2_with (first|(go_at_call 213;(with_reducible refine (HM.out _).mono ?_);rintro e _ ⟨rfl,rfl⟩)|(go_at_call 220;(first|((with_reducible refine (HP.out _).mono ?_);rintro e _ ⟨rfl,rfl⟩)|((with_reducible refine (HQ.out _).mono ?_);rintro e _ ⟨rfl,rfl⟩)|((with_reducible refine (HD.out _).mono ?_);rintro e _ ⟨rfl,rfl⟩)))|(go_at_call 221;(with_reducible refine (HC.out _).mono ?_);rintro e _ ⟨rfl,hb⟩;replace hL:=hL.call hb;clear hb))
 all_goals
  go_ret2
  refine ⟨ret_ib ?_,hL.below⟩
  rw [HR.out]
  try simp only [beq_iff_eq,beq_eq_false_iff_ne,ne_eq] at *
  (repeat' split) <;> omega
theorem bowSign_calls (p q d:Int) (hf:Fit p q d) (w:World):Calls Tryz.prog 219 #[.int .i64 p,.int .i64 q,.int .i64 d] w fun e w'=>e=.returned (.int .i64 (sgR p q d))∧Below w.heap.size w w':=by
 have hL:=Holds.start w
 have HS:=Lib.hid (fun w=>rootSign_calls p q d hf w)
 clear hf
 go_enter Tryz.func219,Tryz.ntmps219
 go_wp2_with (go_at_call 214;(with_reducible refine (HS.out _).mono ?_);rintro e _ ⟨rfl,hb⟩;replace hL:=hL.call hb;clear hb)
 go_ret
 exact ⟨rfl,hL.below⟩
theorem refSgn_calls (p:Int) (w:World):Calls Tryz.prog 159 #[.int .i64 p] w fun e w'=>e=.returned (.int .i64 (sgn p))∧w=w':=by
 rcases (by omega:p<0∨p=0∨0<p) with h|h|h
 ·go_enter Tryz.func159,Tryz.ntmps159
  go_wp2
  go_ret
  exact ⟨ret_int (by unfold sgn;rw [if_pos h]),rfl⟩
 ·subst h
  go_enter Tryz.func159,Tryz.ntmps159
  go_wp2
  go_ret
  exact ⟨ret_int (by unfold sgn;rfl),rfl⟩
 ·go_enter Tryz.func159,Tryz.ntmps159
  go_wp2
  go_ret
  exact ⟨ret_int (by unfold sgn;rw [if_neg (by omega),if_pos h]),rfl⟩
theorem cmp_words (ah al bh bl:Int) (h1:0≤al) (h2:al<18446744073709551616) (h3:0≤bl) (h4:bl<18446744073709551616):cmpI (ah*18446744073709551616+al) (bh*18446744073709551616+bl)=if ah<bh∨(ah=bh∧al<bl) then -1 else if ah=bh∧al=bl then 0 else 1:=by
 unfold cmpI
 (repeat' split) <;> omega
set_option maxRecDepth 100000 in
set_option maxHeartbeats 1000000 in
theorem refCmp_calls (ah al bh bl:Int) (h1:0≤al) (h2:al<18446744073709551616) (h3:0≤bl) (h4:bl<18446744073709551616) (w:World) :
  Calls Tryz.prog 163 #[.agg #[.int .u64 ah,.int .u64 al],.agg #[.int .u64 bh,.int .u64 bl]] w fun e w'=>e=.returned (.int .i64 (cmpI (ah*18446744073709551616+al) (bh*18446744073709551616+bl)))∧Below w.heap.size w w':=by
 have HQ:=Lib.hid (cmp_words ah al bh bl h1 h2 h3 h4)
 generalize cmpI (ah*18446744073709551616+al) (bh*18446744073709551616+bl)=r at *
 have hL:=Holds.start w
 rcases (by omega:ah<bh∨(ah=bh∧al<bl)∨(ah=bh∧al=bl)∨(ah=bh∧bl<al)∨bh<ah) with g|⟨g,g2⟩|⟨g,g2⟩|⟨g,g2⟩|g
 all_goals
  try subst g
  try subst g2
  try (have d1:(al == bl)=false:=by simp;omega)
  try (have d2:(ah == bh)=false:=by simp;omega)
  try (have d3:decide (ah<bh)=false:=by simp;omega)
  try (have d4:decide (al<bl)=false:=by simp;omega)
  obtain ⟨n1,n2⟩:=tok2
  go_enter Tryz.func163,Tryz.ntmps163
  go_wp2_with (first|(with_reducible first|(clear hL n1;intro b1 w1 hL)|(clear hL n2;intro b2 w2 hL))|((with_reducible refine goJ rfl ?_);refine goW ?_))
 all_goals
  go_ret
  exact ⟨ret_int (by have hq:=HQ.out;(try simp only [true_and,and_true,Int.lt_irrefl,false_or,or_false,if_true,if_false] at hq);(try simp only [if_true,if_false] at hq);first|exact hq.symm|(rw [hq];(repeat' split) <;> omega)),hL.below⟩
set_option maxRecDepth 100000 in
set_option maxHeartbeats 1000000 in
theorem refCmpTimes_calls (x n yh yl:Int) (hx0:0≤x) (hx:x<18446744073709551616) (hn0:0≤n) (hn:n<18446744073709551616) (h3:0≤yl) (h4:yl<18446744073709551616) (w:World) :
  Calls Tryz.prog 162 #[.agg #[.int .u64 0,.int .u64 x],.int .u64 n,.agg #[.int .u64 yh,.int .u64 yl]] w fun e w'=>e=.returned (.int .i64 (cmpI (x*n) (yh*18446744073709551616+yl)))∧Below w.heap.size w w':=by
 have HT:=Lib.hid (fun w=>times_calls x n hx0 hx hn0 hn w)
 have h0:=fun w=>times_calls 0 n (by omega) (by omega) hn0 hn w
 rw [Int.zero_mul] at h0
 have H0:=Lib.hid h0
 clear h0
 have l0:=Int.emod_nonneg (x*n) (show (18446744073709551616:Int)≠0 by omega)
 have l1:=Int.emod_lt_of_pos (x*n) (show (0:Int)<18446744073709551616 by omega)
 have hC:=fun w=>refCmp_calls (x*n / 18446744073709551616) (x*n%18446744073709551616) yh yl l0 l1 h3 h4 w
 rw [show x*n / 18446744073709551616*18446744073709551616+x*n%18446744073709551616=x*n by omega] at hC
 have HC:=Lib.hid hC
 have hz:0≤x*n / 18446744073709551616∧x*n / 18446744073709551616<18446744073709551616:=by
  have:=mul_bd (a:=x) (b:=n) (A:=18446744073709551615) (B:=18446744073709551615) (by omega) (by omega) (by omega) (by omega)
  have:=Int.mul_nonneg hx0 hn0
  omega
 obtain ⟨z0,z1⟩:=hz
 clear hC
 generalize cmpI (x*n) (yh*18446744073709551616+yl)=r at *
 generalize x*n / 18446744073709551616=hi at *
 generalize x*n%18446744073709551616=lo at *
 have hL:=Holds.start w
 obtain ⟨n1,n2,n3,n4⟩:=tok4
 go_enter Tryz.func162,Tryz.ntmps162
 go_wp2_with (first|(go_at_call 160;(first|((with_reducible refine (HT.out _).mono ?_);rintro e _ ⟨rfl,hb⟩;replace hL:=hL.call hb;clear hb)|((with_reducible refine (H0.out _).mono ?_);rintro e _ ⟨rfl,hb⟩;replace hL:=hL.call hb;clear hb;try simp only [Int.zero_ediv,Int.zero_emod])))|(go_at_call 163;(with_reducible refine (HC.out _).mono ?_);rintro e _ ⟨rfl,hb⟩;replace hL:=hL.call hb;clear hb)|(with_reducible first|(clear hL n1;intro b1 w1 hL)|(clear hL n2;intro b2 w2 hL)|(clear hL n3;intro b3 w3 hL)|(clear hL n4;intro b4 w4 hL)|(clear hL;intro _ hL))|((with_reducible refine goJ rfl ?_);refine goW ?_))
 go_ret
 exact ⟨rfl,hL.below⟩
open Go.RowKit
theorem sgR_zero (p q:Int):sgR p q 0=sgn p:=by
 have h0:sgn 0=0:=rfl
 rw [sgR_eq,h0,Int.mul_zero]
 (repeat' split) <;> omega
theorem sgR_pos (p q:Int) {d:Int} (h:0<d):sgR p q d=if sgn p=0∨sgn p=sgn q then sgn q else if sgn q=0 then sgn p else sgn p*cmpI (p*p) (q*q*d):=by
 have h0:sgn d=1:=by unfold sgn;rw [if_neg (by omega),if_pos h]
 rw [sgR_eq,h0,Int.mul_one]
theorem cmpI_swap (x y:Int):cmpI y x = -cmpI x y:=by unfold cmpI;(repeat' split) <;> omega
theorem sgn_sgn (a:Int) (h : -1≤a∧a≤1):sgn a=a:=by unfold sgn;(repeat' split) <;> omega
theorem absI_sq (q:Int):absI q*absI q=q*q:=absI_mul (by omega)
set_option maxRecDepth 100000 in
set_option maxHeartbeats 2000000 in
theorem refSign_calls (p q d:Int) (hf:Fit p q d) (w:World):Calls Tryz.prog 157 #[.int .i64 p,.int .i64 q,.int .i64 d] w fun e w'=>e=.returned (.int .i64 (sgR p q d))∧Below w.heap.size w w':=by
 obtain ⟨p0,p1,q0,q1,d0,d1⟩:=hf
 have hL:=Holds.start w
 have hb1:=sgn_bd p
 have hb2:=sgn_bd q
 have HP:=Lib.hid (fun w=>refSgn_calls p w)
 have HQ:=Lib.hid (fun w=>refSgn_calls q w)
 have HS:=Lib.hid (fun a w=>refSgn_calls a w)
 have HN:=Lib.hid sgn_sgn
 rcases (by omega:d=0∨0<d) with hd|hd
 ·subst hd
  have HR:=Lib.hid (sgR_zero p q)
  generalize sgR p q 0=R at *
  generalize sgn p=a at *
  generalize sgn q=x at *
  obtain ⟨b1,b2⟩:=hb1
  obtain ⟨b3,b4⟩:=hb2
  go_enter Tryz.func157,Tryz.ntmps157
  go_wp2_with (go_at_call 159;(first|((with_reducible refine (HP.out _).mono ?_);rintro e _ ⟨rfl,rfl⟩)|((with_reducible refine (HQ.out _).mono ?_);rintro e _ ⟨rfl,rfl⟩)|((with_reducible refine (HS.out _ _).mono ?_);rintro e _ ⟨rfl,rfl⟩;rw [HN.out _ (by omega)])))
  all_goals
   go_ret
   exact ⟨ret_int (by have:=HR.out;omega),hL.below⟩
 ·have HR:=Lib.hid (sgR_pos p q hd)
  generalize sgR p q d=R at *
  obtain ⟨k1,k2⟩:=sq_bd q0 q1
  have hq1:=fun w=>times_calls (absI q) (absI q) (absI_nn q) (absI_bd (by omega) (by omega)) (absI_nn q) (absI_bd (by omega) (by omega)) w
  rw [absI_sq,show q*q / 18446744073709551616=0 by omega,show q*q%18446744073709551616=q*q by omega] at hq1
  have hp1:=fun w=>times_calls (absI p) (absI p) (absI_nn p) (absI_bd (by omega) (by omega)) (absI_nn p) (absI_bd (by omega) (by omega)) w
  rw [absI_sq] at hp1
  have l0:=Int.emod_nonneg (p*p) (show (18446744073709551616:Int)≠0 by omega)
  have l1:=Int.emod_lt_of_pos (p*p) (show (0:Int)<18446744073709551616 by omega)
  have hc1:=fun w=>refCmpTimes_calls (q*q) d (p*p / 18446744073709551616) (p*p%18446744073709551616) k1 (by omega) d0 (by omega) l0 l1 w
  rw [show p*p / 18446744073709551616*18446744073709551616+p*p%18446744073709551616=p*p by omega] at hc1
  have HTQ:=Lib.hid hq1;have HTP:=Lib.hid hp1;have HC:=Lib.hid hc1
  have HAQ:=Lib.hid (fun w=>refAbs_calls q (by omega) (by omega) w)
  have HAP:=Lib.hid (fun w=>refAbs_calls p (by omega) (by omega) w)
  clear hq1 hp1 hc1 l0 l1 k1 k2
  obtain ⟨m3,m4⟩:=mul1_bd hb2 (cmpI_bd (q*q*d) (p*p))
  have HK:=Lib.hid (show sgn p = -sgn q→sgn q*cmpI (q*q*d) (p*p)=sgn p*cmpI (p*p) (q*q*d) from fun h=>by rw [h,cmpI_swap (p*p)];grind)
  generalize sgn p=a at *
  generalize sgn q=x at *
  generalize cmpI (p*p) (q*q*d)=r at *
  generalize cmpI (q*q*d) (p*p)=r2 at *
  generalize absI q=aq at *
  generalize absI p=ap at *
  generalize q*q=qq at *
  generalize p*p / 18446744073709551616=ph at *
  generalize p*p%18446744073709551616=pl at *
  obtain ⟨b1,b2⟩:=hb1
  obtain ⟨b3,b4⟩:=hb2
  have de:(d == 0)=false:=by simp;omega
  obtain ⟨n1,n2⟩:=tok2
  go_enter Tryz.func157,Tryz.ntmps157
  go_wp2_with (first|(go_at_call 159;(first|((with_reducible refine (HP.out _).mono ?_);rintro e _ ⟨rfl,rfl⟩)|((with_reducible refine (HQ.out _).mono ?_);rintro e _ ⟨rfl,rfl⟩)|((with_reducible refine (HS.out _ _).mono ?_);rintro e _ ⟨rfl,rfl⟩)))|(go_at_call 161;(first|((with_reducible refine (HAQ.out _).mono ?_);rintro e _ ⟨rfl,rfl⟩)|((with_reducible refine (HAP.out _).mono ?_);rintro e _ ⟨rfl,rfl⟩)))|(go_at_call 160;(first|((with_reducible refine (HTQ.out _).mono ?_);rintro e _ ⟨rfl,hb⟩;replace hL:=hL.call hb;clear hb)|((with_reducible refine (HTP.out _).mono ?_);rintro e _ ⟨rfl,hb⟩;replace hL:=hL.call hb;clear hb)))|(go_at_call 162;(with_reducible refine (HC.out _).mono ?_);rintro e _ ⟨rfl,hb⟩;replace hL:=hL.call hb;clear hb)|(with_reducible first|(clear hL n1;intro b1 w1 hL)|(clear hL n2;intro b2 w2 hL)|(clear hL;intro _ hL))|((with_reducible refine goJ rfl ?_);refine goW ?_))
  all_goals
   try simp only [beq_iff_eq,beq_eq_false_iff_ne,ne_eq] at *
  all_goals
   go_ret
   refine ⟨ret_int ?_,hL.below⟩
   rw [HR.out]
   first
   | (rw [if_neg (by omega),if_neg (by omega)];exact HK.out (by omega))
   | (unfold sgn;(repeat' split) <;> omega)
open Go.RowKit
structure Spt where
 turn:Int
 p:Int
 q:Int
 d:Int
 m:Int
def noSpt:Spt:=⟨0,0,0,0,0⟩
def evP (b c ax bx x0:Int):Int:=4*b*b*x0-4*b*c*bx+ax*c*c
def evenS (b c ax bx x0:Int):Spt:=if 0<b∧c≤0 ∧ -c<2*b then ⟨1,evP b c ax bx x0,0,0,4*b*b⟩ else if b<0∧0<c∧c ≤ -2*b then ⟨-1,evP b c ax bx x0,0,0,4*b*b⟩ else noSpt
structure EvOk (b c ax bx x0:Int):Prop where
 b0 : -16382≤b
 b1:b≤16382
 c0 : -16382≤c
 c1:c≤16382
 ax0 : -32764≤ax
 ax1:ax≤32764
 bx0 : -16382≤bx
 bx1:bx≤16382
 f0 : -8191≤x0
 f1:x0≤8191
set_option maxRecDepth 100000 in
set_option maxHeartbeats 1000000 in
theorem even_calls (b c ax bx x0:Int) (hb:EvOk b c ax bx x0) (w:World):Calls Tryz.prog 218 #[.int .i64 b,.int .i64 c,.int .i64 ax,.int .i64 bx,.int .i64 x0] w fun e w'=>e=.returned (.agg #[.int .i64 (evenS b c ax bx x0).turn,.int .i64 (evenS b c ax bx x0).p,.int .i64 (evenS b c ax bx x0).q,.int .i64 (evenS b c ax bx x0).d,.int .i64 (evenS b c ax bx x0).m])∧Below w.heap.size w w':=by
 obtain ⟨b0,b1,c0,c1,a0,a1,e0,e1,x0',x1'⟩:=hb
 have hL:=Holds.start w
 obtain ⟨k1,k2⟩:=mul_bd (a:=4*b) (b:=b) (A:=65528) (B:=16382) (by omega) (by omega) (by omega) (by omega)
 obtain ⟨k3,k4⟩:=mul_bd (a:=4*b*b) (b:=x0) (A:=1073479696) (B:=8191) (by omega) (by omega) (by omega) (by omega)
 obtain ⟨k5,k6⟩:=mul_bd (a:=4*b) (b:=c) (A:=65528) (B:=16382) (by omega) (by omega) (by omega) (by omega)
 obtain ⟨k7,k8⟩:=mul_bd (a:=4*b*c) (b:=bx) (A:=1073479696) (B:=16382) (by omega) (by omega) (by omega) (by omega)
 obtain ⟨k9,k10⟩:=mul_bd (a:=ax) (b:=c) (A:=32764) (B:=16382) (by omega) (by omega) (by omega) (by omega)
 obtain ⟨k11,k12⟩:=mul_bd (a:=ax*c) (b:=c) (A:=536739848) (B:=16382) (by omega) (by omega) (by omega) (by omega)
 have HE:=Lib.hid (show evenS b c ax bx x0=if 0<b∧c≤0 ∧ -c<2*b then ⟨1,4*b*b*x0-4*b*c*bx+ax*c*c,0,0,4*b*b⟩ else if b<0∧0<c∧c ≤ -2*b then ⟨-1,4*b*b*x0-4*b*c*bx+ax*c*c,0,0,4*b*b⟩ else noSpt from rfl)
 generalize evenS b c ax bx x0=s at *
 obtain ⟨n1,n2⟩:=tok2
 go_enter Tryz.func218,Tryz.ntmps218
 go_wp2_with (first|(with_reducible first|(clear hL n1;intro b1 w1 hL)|(clear hL n2;intro b2 w2 hL)|(clear hL;intro _ hL))|((with_reducible refine goJ rfl ?_);refine goW ?_))
 all_goals
  have he:=HE.out
  first
  | rw [if_pos (by omega)] at he
  | rw [if_neg (by omega),if_pos (by omega)] at he
  | rw [if_neg (by omega),if_neg (by omega)] at he
  subst he
  exact bodyPost_ret (results_row inferInstance rfl _ hL b1 rfl _ _ (.there .here) rfl) rfl ⟨rfl,hL.below⟩
theorem storeP {P:Program} {w0 w:World} {M M':List Res} {Φ:List (World→Prop)} {KW:World→Prop} {T:TypeId} {b off n:Nat} {vs:Array Value} [hT:RowT P T n] (hL:Holds w0 w M Φ) {cs:Array Value} {T':TypeId} {cs':Array Value} (h:∀ w',Holds w0 w' M' Φ→KW w')
  (hv1:vs.all (·.oneCell')=true:=by (first|rfl|(simp [Value.oneCell'];done)))
  (hu:Upd M (blk b cs T') (blk b cs' T') M':=by (repeat (first|with_reducible exact Upd.here|with_reducible apply Upd.there)))
  (hcs:(cs.toList.take off++vs.toList++cs.toList.drop (off+n)).toArray=cs':=by (simp only [List.take_succ_cons,List.take_zero,List.drop_succ_cons,List.drop_zero,List.cons_append,List.nil_append,List.append_nil,Nat.reduceAdd,Nat.reduceMul];rfl)) (hoff:off+n≤cs.size:=by (simp only [List.size_toArray,List.length_cons,List.length_nil];omega)) (hn:n=vs.size:=by rfl):StoreAt P T ⟨b,off,none⟩ (.agg vs) w KW:=storeAt_part hT hv1 hL cs T' cs' hu hoff hn hcs h
def bA (e:Edg):Int:=e.y0-2*e.cy+e.y1
def bB (e:Edg):Int:=e.cy-e.y0
def bC (e:Edg) (y:Int):Int:=e.y0-y
def bAX (e:Edg):Int:=e.x0-2*e.cx+e.x1
def bBX (e:Edg):Int:=e.cx-e.x0
def sideI (a:Int):Int:=if a<0 then -1 else 1
def oneP (x0 a b d ax bx:Int):Int:=x0*a*a-2*a*b*bx+ax*(b*b+d)
def oneQ (s a b ax bx:Int):Int:=s*(2*a*bx-2*b*ax)
def oneS (s x0 a b d ax bx:Int):Spt :=
 if (0<s∧(sideI a*sgR (-b) s d<0∨0≤sideI a*sgR (-b-a) s d))∨(s<0∧(sideI a*sgR (-b) s d≤0∨0<sideI a*sgR (-b-a) s d)) then noSpt else ⟨s,oneP x0 a b d ax bx,oneQ s a b ax bx,d,a*a⟩
def bent1 (x0 a b c ax bx:Int):Spt:=if a=0 then evenS b c ax bx x0 else if b*b-a*c<0∨(b*b-a*c=0∧a<0) then noSpt else oneS 1 x0 a b (b*b-a*c) ax bx
def bent2 (x0 a b c ax bx:Int):Spt:=if a=0 then noSpt else if b*b-a*c<0∨(b*b-a*c=0∧a<0) then noSpt else oneS (-1) x0 a b (b*b-a*c) ax bx
def spt1 (e:Edg) (y:Int):Spt:=if e.bent then bent1 e.x0 (bA e) (bB e) (bC e y) (bAX e) (bBX e) else ⟨spT e y,spP e y,0,0,spM e y⟩
def spt2 (e:Edg) (y:Int):Spt:=if e.bent then bent2 e.x0 (bA e) (bB e) (bC e y) (bAX e) (bBX e) else noSpt
structure Small6 (e:Edg) (y:Int):Prop where
 a0 : -8191≤e.x0
 a1:e.x0≤8191
 b0 : -8191≤e.y0
 b1:e.y0≤8191
 c0 : -8191≤e.cx
 c1:e.cx≤8191
 d0 : -8191≤e.cy
 d1:e.cy≤8191
 e0 : -8191≤e.x1
 e1:e.x1≤8191
 f0 : -8191≤e.y1
 f1:e.y1≤8191
 g0 : -8191≤y
 g1:y≤8191
theorem small6_of {e:Edg} {y:Int} (h:mayE e=true) (hy:near1 y=true):Small6 e y:=by
 simp [mayE,near1] at h hy
 exact ⟨by omega,by omega,by omega,by omega,by omega,by omega,by omega,by omega,by omega,by omega,by omega,by omega,by omega,by omega⟩
open Go.RowKit
theorem sgR_bd2 (p q d:Int) : -1≤sgR p q d∧sgR p q d≤1:=by
 rw [sgR_eq]
 have h1:=sgn_bd p
 have h2:=mul1_bd (sgn_bd q) (sgn_bd d)
 have h3:=mul1_bd (sgn_bd p) (cmpI_bd (p*p) (q*q*d))
 (repeat' split) <;> omega
def sdR (a p s d:Int):Int:=if a<0 then -sgR p s d else sgR p s d
theorem rSide_calls (p s d a:Int) (hf:Fit p s d) (w:World):Calls Tryz.prog 158 #[.int .i64 p,.int .i64 s,.int .i64 d,.int .i64 a] w fun e w'=>e=.returned (.int .i64 (sdR a p s d))∧Below w.heap.size w w':=by
 have hL:=Holds.start w
 have HS:=Lib.hid (fun w=>refSign_calls p s d hf w)
 obtain ⟨n1,n2⟩:=sgR_bd2 p s d
 have HR:=Lib.hid (show sdR a p s d=if a<0 then -sgR p s d else sgR p s d from rfl)
 generalize sgR p s d=v at *
 clear hf
 rcases (by omega:a<0∨¬a<0) with h|h
 all_goals
  go_enter Tryz.func158,Tryz.ntmps158
  go_wp2_with (go_at_call 157;(with_reducible refine (HS.out _).mono ?_);rintro e _ ⟨rfl,hb⟩;replace hL:=hL.call hb;clear hb)
  go_ret
  exact ⟨ret_int (by rw [HR.out];split <;> omega),hL.below⟩
theorem rFrom_calls (a b s d:Int) (hb0 : -16382≤b) (hb1:b≤16382) (hf:Fit (-b) s d) (w:World):Calls Tryz.prog 153 #[.int .i64 a,.int .i64 b,.int .i64 s,.int .i64 d] w fun e w'=>e=.returned (.bool (decide (0≤sdR a (-b) s d)))∧Below w.heap.size w w':=by
 have hL:=Holds.start w
 have HS:=Lib.hid (fun w=>rSide_calls (-b) s d a hf w)
 generalize sdR a (-b) s d=v at *
 clear hf
 go_enter Tryz.func153,Tryz.ntmps153
 go_wp2_with (go_at_call 158;(with_reducible refine (HS.out _).mono ?_);rintro e _ ⟨rfl,hb⟩;replace hL:=hL.call hb;clear hb)
 go_ret
 exact ⟨rfl,hL.below⟩
theorem rFrom0_calls (a b s d:Int) (hb0 : -16382≤b) (hb1:b≤16382) (hf:Fit (-b) s d) (w:World):Calls Tryz.prog 156 #[.int .i64 a,.int .i64 b,.int .i64 s,.int .i64 d] w fun e w'=>e=.returned (.bool (decide (sdR a (-b) s d≤0)))∧Below w.heap.size w w':=by
 have hL:=Holds.start w
 have HS:=Lib.hid (fun w=>rSide_calls (-b) s d a hf w)
 generalize sdR a (-b) s d=v at *
 clear hf
 go_enter Tryz.func156,Tryz.ntmps156
 go_wp2_with (go_at_call 158;(with_reducible refine (HS.out _).mono ?_);rintro e _ ⟨rfl,hb⟩;replace hL:=hL.call hb;clear hb)
 go_ret
 exact ⟨rfl,hL.below⟩
theorem rTo_calls (a b s d:Int) (over:Bool) (ha0 : -32764≤a) (ha1:a≤32764) (hb0 : -16382≤b) (hb1:b≤16382) (hf:Fit (-b-a) s d) (w:World):Calls Tryz.prog 154 #[.int .i64 a,.int .i64 b,.int .i64 s,.int .i64 d,.bool over] w fun e w'=>e=.returned (.bool (if over then decide (0≤sdR a (-b-a) s d) else decide (sdR a (-b-a) s d≤0)))∧Below w.heap.size w w':=by
 have hL:=Holds.start w
 have HS:=Lib.hid (fun w=>rSide_calls (-b-a) s d a hf w)
 generalize sdR a (-b-a) s d=v at *
 clear hf
 cases over
 all_goals
  rcases (by omega:v<0∨v=0∨0<v) with h|h|h
  all_goals
   go_enter Tryz.func154,Tryz.ntmps154
   go_wp2_with (go_at_call 158;(with_reducible refine (HS.out _).mono ?_);rintro e _ ⟨rfl,hb⟩;replace hL:=hL.call hb;clear hb)
   go_ret
   exact ⟨ret_bool (by simp;try omega),hL.below⟩
structure FitAt (s:Spt) (x:Int):Prop where
 x0 : -8191≤x
 x1:x≤8191
 p0 : -1000000000000000≤s.p
 p1:s.p≤1000000000000000
 q0 : -2147483648≤s.q
 q1:s.q≤2147483648
 d0:0≤s.d
 d1:s.d≤2147483648
 m0 : -2147483648≤s.m
 m1:s.m≤2147483648
def sptV (s:Spt):Value:=.agg #[.int .i64 s.turn,.int .i64 s.p,.int .i64 s.q,.int .i64 s.d,.int .i64 s.m]
set_option maxRecDepth 100000 in
theorem rAbove_calls (s:Spt) (x:Int) (hf:FitAt s x) (w:World):Calls Tryz.prog 146 #[sptV s,.int .i64 x] w fun e w'=>e=.returned (.bool (decide (0<sgR (s.p-x*s.m) s.q s.d)))∧Below w.heap.size w w':=by
 obtain ⟨turn,p,q,d,m⟩:=s
 obtain ⟨x0,x1,p0,p1,q0,q1,d0,d1,m0,m1⟩:=hf
 unfold sptV
 dsimp only at *
 have hL:=Holds.start w
 obtain ⟨k1,k2⟩:=mul_bd (a:=x) (b:=m) (A:=8191) (B:=2147483648) (by omega) (by omega) (by omega) (by omega)
 have HS:=Lib.hid (fun w=>refSign_calls (p-x*m) q d ⟨by omega,by omega,q0,q1,d0,d1⟩ w)
 generalize sgR (p-x*m) q d=v at *
 have n1:True:=trivial
 go_enter Tryz.func146,Tryz.ntmps146
 go_wp2_with (first|(go_at_call 157;(with_reducible refine (HS.out _).mono ?_);rintro e _ ⟨rfl,hb⟩;replace hL:=hL.call hb;clear hb)|(with_reducible (clear hL n1;intro b1 w1 hL))|((with_reducible refine goJ rfl ?_);refine goW ?_))
 go_ret
 exact ⟨rfl,hL.below⟩
end Go.Proofs.YtmnoeoecjfhhbaaGreat
