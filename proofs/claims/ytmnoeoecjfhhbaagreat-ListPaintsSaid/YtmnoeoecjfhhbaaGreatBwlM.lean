/- Package bow: Line: an edge's crossings of a line. -/
import Derived.Test.YtmnoeoecjfhhbaaGreatTrnM
import Derived.Test.YtmnoeoecjfhhbaaGreatSpB
namespace Go.Proofs.YtmnoeoecjfhhbaaGreat
open Go.RowKit
theorem sgn_cases (p:Int):(p<0∧sgn p = -1)∨(p=0∧sgn p=0)∨(0<p∧sgn p=1):=by unfold sgn;(repeat' split) <;> omega
theorem sgR_nn {p q d:Int} (hd:0≤d):0≤sgR p q d ↔ ((0≤p∧(0≤q∨d=0))∨(0<p∧q<0∧0<d∧q*q*d≤p*p)∨(p<0∧0<q∧0<d∧p*p≤q*q*d)):=by
 rw [sgR_eq]
 generalize q*q*d=s
 generalize p*p=a
 unfold cmpI
 rcases sgn_cases q with ⟨h1,e1⟩|⟨h1,e1⟩|⟨h1,e1⟩ <;> rcases sgn_cases d with ⟨h2,e2⟩|⟨h2,e2⟩|⟨h2,e2⟩ <;> rcases sgn_cases p with ⟨h3,e3⟩|⟨h3,e3⟩|⟨h3,e3⟩ <;> rw [e1,e2,e3] <;> first
 | (exfalso;omega)
 | ((repeat' split) <;> omega)
theorem sq_mono {a b:Int} (h0:0≤a) (h:a≤b):a*a≤b*b:=Int.mul_le_mul h h h0 (by omega)
theorem sq_anti {a b:Int} (h0:b≤0) (h:a≤b):b*b≤a*a:=by
 have:=sq_mono (a := -b) (b := -a) (by omega) (by omega)
 rwa [Int.neg_mul_neg,Int.neg_mul_neg] at this
theorem sgR_mono {p p' q d:Int} (hd:0≤d) (h:p≤p') (h0:0≤sgR p q d):0≤sgR p' q d:=by
 rw [sgR_nn hd] at h0 ⊢
 have k1:=fun h0=>sq_mono (a:=p) (b:=p') h0 h
 have k2:=fun h0=>sq_anti (a:=p) (b:=p') h0 h
 generalize q*q*d=s at *
 generalize p*p=a at *
 generalize p'*p'=b at *
 rcases h0 with h0|h0|h0
 ·exact .inl (by omega)
 ·exact .inr (.inl (by omega))
 ·rcases (by omega:p'<0∨0≤p') with g|g
  ·exact .inr (.inr (by omega))
  ·exact .inl (by omega)
theorem sgR_negC (p q d:Int):sgR (-p) (-q) d = -sgR p q d:=by
 rw [sgR_eq,sgR_eq,Int.neg_mul_neg,Int.neg_mul_neg]
 generalize q*q*d=s
 generalize p*p=a
 rcases sgn_cases q with ⟨h1,e1⟩|⟨h1,e1⟩|⟨h1,e1⟩ <;> rcases sgn_cases d with ⟨h2,e2⟩|⟨h2,e2⟩|⟨h2,e2⟩ <;> rcases sgn_cases p with ⟨h3,e3⟩|⟨h3,e3⟩|⟨h3,e3⟩ <;> rcases sgn_cases (-q) with ⟨h4,e4⟩|⟨h4,e4⟩|⟨h4,e4⟩ <;> rcases sgn_cases (-p) with ⟨h5,e5⟩|⟨h5,e5⟩|⟨h5,e5⟩ <;> first
 | (exfalso;omega)
 | (rw [e1,e2,e3,e4,e5];unfold cmpI;(repeat' split) <;> omega)
def IsCut (t q d:Int):Prop:=0≤sgR (-t) q d∧¬0≤sgR (-(t+1)) q d
theorem IsCut.iff {t q d:Int} (hd:0≤d) (h:IsCut t q d) (n:Int):n≤t ↔ 0≤sgR (-n) q d:=by
 constructor
 ·intro hn;exact sgR_mono hd (by omega) h.1
 ·intro hn
  rcases (by omega:n≤t∨t+1≤n) with g|g
  ·exact g
  ·exact absurd (sgR_mono hd (by omega) hn) h.2
theorem IsCut.div {t p q d m v:Int} (hd:0≤d) (hm:0<m) (h:IsCut t q d) (hv:v=(p+t) / m) (j:Int):j≤v ↔ 0≤sgR (p-j*m) q d:=by
 rw [show p-j*m = -(j*m-p) by omega,←h.iff hd,hv,Int.le_ediv_iff_mul_le hm]
 omega
theorem tdiv_floor (p m:Int) (hm:0<m):(if p.tmod m<0 then p.tdiv m-1 else p.tdiv m)=p / m:=by
 have h1:=Int.tmod_add_mul_tdiv p m
 have h2:=Int.tmod_lt_of_pos p hm
 have h3:=Int.lt_tmod_of_pos p hm
 have e:∀ x r:Int,0≤r→r<m→r+m*x=p→p / m=x:=by
  intro x r a b c
  rw [←c,Int.add_mul_ediv_left _ _ (by omega),Int.ediv_eq_zero_of_lt a b,Int.zero_add]
 split
 ·exact (e _ (p.tmod m+m) (by omega) (by omega) (by rw [Int.mul_sub];omega)).symm
 ·exact (e _ (p.tmod m) (by omega) (by omega) h1).symm
theorem col_iff {s:Spt} (_:0≤s.d) {k:Int} (h:∀ j:Int,j≤k ↔ 0≤sgR (8*s.m-s.p-j*(16*s.m)) (-s.q) s.d) (i:Int):i < -k ↔ 0<sgR (s.p-(16*i+8)*s.m) s.q s.d:=by
 have e:8*s.m-s.p-(-i)*(16*s.m) = -(s.p-(16*i+8)*s.m):=by grind
 have:=h (-i)
 rw [e,sgR_negC] at this
 omega
theorem col_hit {s:Spt} (hd:0≤s.d) (ht:s.turn≠0) {k:Int} (h:∀ j:Int,j≤k ↔ 0≤sgR (8*s.m-s.p-j*(16*s.m)) (-s.q) s.d) {n i:Nat} (hi:i<n):(if (i:Int)<max 0 (min (-k) n) then s.turn else 0)=hitT s (16*(i:Int)+8):=by
 have:=col_iff hd h i
 unfold hitT
 by_cases g:(i:Int) < -k
 ·rw [if_pos (by omega),if_pos ⟨ht,this.1 g⟩]
 ·rw [if_neg (by omega),if_neg (fun q=>g (this.2 q.2))]
theorem four_pos {b:Int} (hb:b≠0):0<4*b*b:=by
 rw [Int.mul_assoc]
 rcases (by omega:b<0∨0<b) with g|g
 ·have:=Int.mul_pos_of_neg_of_neg g g;omega
 ·have:=Int.mul_pos g g;omega
theorem two_pos {b:Int} (hb:b≠0):0<b*b:=by
 rcases (by omega:b<0∨0<b) with g|g
 ·exact Int.mul_pos_of_neg_of_neg g g
 ·exact Int.mul_pos g g
theorem evenS_pos (b c ax bx x0:Int):(evenS b c ax bx x0).turn≠0→0<(evenS b c ax bx x0).m:=by
 unfold evenS
 split
 ·intro _;exact four_pos (by omega)
 ·split
  ·intro _;exact four_pos (by omega)
  ·intro h;exact absurd rfl h
theorem oneM_pos (s x0:Int) {a:Int} (b d ax bx:Int) (ha:a≠0):(oneS s x0 a b d ax bx).turn≠0→0<(oneS s x0 a b d ax bx).m:=by
 unfold oneS
 split
 ·intro h;exact absurd rfl h
 ·intro _;exact two_pos ha
theorem bent1_pos (x0 a b c ax bx:Int):(bent1 x0 a b c ax bx).turn≠0→0<(bent1 x0 a b c ax bx).m:=by
 unfold bent1
 split
 ·exact evenS_pos _ _ _ _ _
 ·rename_i ha
  split
  ·intro h;exact absurd rfl h
  ·exact oneM_pos _ _ _ _ _ _ ha
theorem bent2_pos (x0 a b c ax bx:Int):(bent2 x0 a b c ax bx).turn≠0→0<(bent2 x0 a b c ax bx).m:=by
 unfold bent2
 split
 ·intro h;exact absurd rfl h
 ·rename_i ha
  split
  ·intro h;exact absurd rfl h
  ·exact oneM_pos _ _ _ _ _ _ ha
theorem straight_pos (e:Edg) (y:Int):spT e y≠0→0<spM e y:=by
 unfold spT spM
 (repeat' split) <;> intro h <;> omega
theorem spt1_pos (e:Edg) (y:Int):(spt1 e y).turn≠0→0<(spt1 e y).m:=by
 unfold spt1
 split
 ·exact bent1_pos _ _ _ _ _ _
 ·exact straight_pos e y
theorem spt2_pos (e:Edg) (y:Int):(spt2 e y).turn≠0→0<(spt2 e y).m:=by
 unfold spt2
 split
 ·exact bent2_pos _ _ _ _ _ _
 ·intro h;exact absurd rfl h
def left (cs:List (Int × Int)) (i:Int):Int:=(cs.map fun c=>if i<c.2 then c.1 else 0).sum
theorem left_nil (i:Int):left [] i=0:=rfl
theorem left_append (a b:List (Int × Int)) (i:Int):left (a++b) i=left a i+left b i:=by simp [left]
theorem left_cons (c:Int × Int) (b:List (Int × Int)) (i:Int):left (c::b) i=(if i<c.2 then c.1 else 0)+left b i:=by simp [left]
structure Crosses (e:Edg) (y:Int) (n:Nat) (cs:List (Int × Int)):Prop where
 len:cs.length≤2
 bd:∀ k,k<cs.length→0≤(cs.getD k (0,0)).2∧(cs.getD k (0,0)).2≤n ∧ -1≤(cs.getD k (0,0)).1∧(cs.getD k (0,0)).1≤1
 col:∀ i:Nat,i<n→left cs i=turnG e (16*(i:Int)+8) y
open Go.RowKit
theorem cut_low {q d:Int} (q0 : -2147483648≤q) (q1:q≤2147483648) (d0:0≤d) (d1:d≤2147483648):0≤sgR (-(-140737488355328)) q d∧¬0≤sgR (-140737488355328) q d:=by
 obtain ⟨k1,k2⟩:=sq_bd q0 q1
 have k3:0≤(4611686018427387904-q*q)*d:=Int.mul_nonneg (by omega) d0
 have k4:q*q*d≤4611686018427387904*d:=by rw [Int.sub_mul] at k3;omega
 rw [sgR_nn d0,sgR_nn d0]
 generalize q*q*d=s at *
 constructor
 ·rcases (by omega:0≤q∨d=0∨(q<0∧0<d)) with h|h|h
  ·exact .inl ⟨by omega,.inl h⟩
  ·exact .inl ⟨by omega,.inr h⟩
  ·exact .inr (.inl ⟨by omega,h.1,h.2,by omega⟩)
 ·intro h
  omega
structure CutOk (p q d m:Int):Prop where
 p0 : -1152921504606846976≤p
 p1:p≤1152921504606846976
 q0 : -2147483648≤q
 q1:q≤2147483648
 d0:0≤d
 d1:d≤2147483648
 m0:1≤m
 m1:m≤1099511627776
structure CutAt (q d:Int) (k:Nat) (t:Int):Prop where
 lo : -140737488355328≤t
 hi:t+2^(48-k)≤140737488355328
 yes:0≤sgR (-t) q d
 no:¬0≤sgR (-(t+2^(48-k))) q d
theorem CutAt.start {p q d m:Int} (h:CutOk p q d m):CutAt q d 0 (-140737488355328) :=
 ⟨by omega,by decide,(cut_low h.q0 h.q1 h.d0 h.d1).1,(cut_low h.q0 h.q1 h.d0 h.d1).2⟩
theorem pow_half {k:Nat} (hk:k<48):(2:Int)^(48-k)=2*2^(47-k):=by
 rw [show 48-k=(47-k)+1 by omega,Int.pow_succ,Int.mul_comm]
theorem CutAt.up {q d:Int} {k:Nat} {t S:Int} (h:CutAt q d k t) (hk:k<48) (hS:(2:Int)^(47-k)=S) (hs:0<S) (hr:0≤sgR (-(t+S)) q d):CutAt q d (k+1) (t+S):=by
 obtain ⟨a,b,c,e⟩:=h
 rw [pow_half hk,hS] at b e
 refine ⟨by omega,?_,hr,?_⟩
 ·rw [show 48-(k+1)=47-k by omega,hS];omega
 ·rw [show 48-(k+1)=47-k by omega,hS,show t+S+S=t+2*S by omega];exact e
theorem CutAt.stay {q d:Int} {k:Nat} {t S:Int} (h:CutAt q d k t) (hk:k<48) (hS:(2:Int)^(47-k)=S) (hs:0<S) (hr:¬0≤sgR (-(t+S)) q d):CutAt q d (k+1) t:=by
 obtain ⟨a,b,c,e⟩:=h
 rw [pow_half hk,hS] at b e
 refine ⟨a,?_,c,?_⟩
 ·rw [show 48-(k+1)=47-k by omega,hS];omega
 ·rw [show 48-(k+1)=47-k by omega,hS];exact hr
theorem CutAt.done {q d t:Int} (h:CutAt q d 48 t):IsCut t q d:=⟨h.yes,h.no⟩
theorem CutAt.last {q d t:Int} (h:CutAt q d 48 t) : -140737488355328≤t∧t≤140737488355328:=by
 obtain ⟨a,b,_,_⟩:=h
 rw [show 48-48=0 by omega,Int.pow_zero] at b
 omega
set_option maxRecDepth 100000 in
set_option maxHeartbeats 1000000 in
theorem rootCut_calls (p q d m:Int) (hf:CutOk p q d m) (w:World):Calls Tryz.prog 204 #[.int .i64 p,.int .i64 q,.int .i64 d,.int .i64 m] w fun e w'=>(∃ v,e=.returned (.tuple #[.int .i64 v,.bool true])∧(-2305843009213693952≤v∧v≤2305843009213693952)∧∀ j,j≤v ↔ 0≤sgR (p-j*m) q d)∧Below w.heap.size w w':=by
 have h0:=Lib.hid (CutAt.start hf)
 have HF:=Lib.hid hf
 obtain ⟨p0,p1,q0,q1,d0,d1,m0,m1⟩:=hf
 have HM:=Lib.hid (fun w=>rootMay_calls q d q0 q1 d0 d1 w)
 have hL:=Holds.start w
 go_enter Tryz.func204,Tryz.ntmps204
 go_wp2_with (go_at_call 213;(with_reducible refine (HM.out _).mono ?_);rintro e _ ⟨rfl,rfl⟩)
 go_loopw [10,35] (fun s10 s35 wr=>∃ (k:Nat) (t:Int),k≤48∧s35=.int .i64 k∧s10=.int .i64 t∧Hid (CutAt q d k t)∧Holds w wr [] [])
  (fun s10 s35 wr=>48-(intOf s35).toNat)
 case atStart=>exact ⟨0,_,by omega,rfl,rfl,h0,hL⟩
 case round =>
  clear hL
  obtain ⟨k,t,hk,rfl,rfl,hC,hL⟩:=hrel
  by_cases hlt:k<48
  ·have hlo:=hC.out.lo
   have hhi:=hC.out.hi
   rw [pow_half hlt] at hhi
   obtain ⟨S,hS⟩:∃ S,(2:Int)^(47-k)=S:=⟨_,rfl⟩
   have hs0:0<S:=by rw [←hS];exact Int.pow_pos (by decide)
   rw [hS] at hhi
   have HS:=Lib.hid hS
   have hSG:=fun w=>rootSign_calls (-(t+S)) q d ⟨by omega,by omega,q0,q1,d0,d1⟩ w
   have hb:=sgR_bd2 (-(t+S)) q d
   have HU:=Lib.hid (fun h=>hC.out.up hlt HS.out hs0 h)
   have HD:=Lib.hid (fun h=>hC.out.stay hlt HS.out hs0 h)
   generalize sgR (-(t+S)) q d=r at *
   have HG:=Lib.hid hSG;clear hSG
   obtain ⟨hb1,hb2⟩:=hb
   rcases (by omega:0≤r∨r<0) with hr|hr
   ·go_wp2_with (go_at_call 214;(with_reducible refine (HG.out _).mono ?_);rintro e _ ⟨rfl,hb⟩;replace hL:=hL.call hb;clear hb)
    go_roundw
    case rel=>exact ⟨k+1,t+S,by omega,by go_num,rfl,Lib.hid (HU.out hr),hL⟩
    case measure=>simp [intOf];omega
   ·go_wp2_with (go_at_call 214;(with_reducible refine (HG.out _).mono ?_);rintro e _ ⟨rfl,hb⟩;replace hL:=hL.call hb;clear hb)
    go_roundw
    case rel=>exact ⟨k+1,t,by omega,by go_num,rfl,Lib.hid (HD.out (by omega)),hL⟩
    case measure=>simp [intOf];omega
  ·have e:k=48:=by omega
   subst e
   obtain ⟨t0,t1⟩:=hC.out.last
   have HV:=Lib.hid (fun v hv=>hC.out.done.div (p:=p) (m:=m) (v:=v) d0 (by omega) hv)
   have HT:=Lib.hid (tdiv_floor (p+t) m (by omega))
   have hb : -2305843009213693952≤(p+t) / m∧(p+t) / m≤2305843009213693952:=by
    have h1:=Int.ediv_le_ediv (c:=m) (by omega) (show p+t≤1153062242095202304 by omega)
    have h2:=Int.ediv_le_ediv (c:=m) (by omega) (show -1153062242095202304≤p+t by omega)
    have h3:=Int.ediv_le_self (b:=m) (show (0:Int)≤1153062242095202304 by omega)
    have h4 : -1153062242095202304≤(-1153062242095202304:Int) / m:=by
     rw [Int.le_ediv_iff_mul_le (by omega)]
     omega
    omega
   have HB:=Lib.hid hb;clear hb
   go_wp2_with (first|((with_reducible refine goJ rfl ?_);refine goW ?_))
   all_goals
    go_ret2
    refine ⟨⟨(p+t) / m,ret_ib ?_,HB.out,HV.out _ rfl⟩,hL.below⟩
    have:=HT.out
    have hb:=HB.out
    by_cases hq:(p+t).tmod m<0
    ·rw [if_pos hq] at this
     first
     | (exfalso;omega)
     | (rw [this];unfold wrap64;omega)
    ·rw [if_neg hq] at this
     first
     | exact this
     | (exfalso;omega)
open Go.RowKit
theorem spt_cut {s:Spt} (hf:FitAt s 0) (hm:0<s.m):CutOk (8*s.m-s.p) (-s.q) s.d (16*s.m):=by
 obtain ⟨x0,x1,p0,p1,q0,q1,d0,d1,m0,m1⟩:=hf
 exact ⟨by omega,by omega,by omega,by omega,d0,d1,by omega,by omega⟩
structure SpotAt (s:Spt) (n:Nat) (cs cs':List (Int × Int)):Prop where
 len:cs'.length≤cs.length+1
 bd:(∀ c∈cs,0≤c.2∧c.2≤n ∧ -1≤c.1∧c.1≤1)→∀ c∈cs',0≤c.2∧c.2≤n ∧ -1≤c.1∧c.1≤1
 col:∀ i:Nat,i<n→left cs' i=left cs i+hitT s (16*(i:Int)+8)
theorem SpotAt.none {s:Spt} (n:Nat) (cs:List (Int × Int)) (ht:s.turn=0):SpotAt s n cs cs :=
 ⟨by omega,fun h=>h,fun i _=>by unfold hitT;rw [if_neg (fun h=>h.1 ht)];omega⟩
theorem SpotAt.some {s:Spt} (n:Nat) (cs:List (Int × Int)) (hd:0≤s.d) (ht:s.turn≠0) (hb : -1≤s.turn∧s.turn≤1) {k:Int} (h:∀ j:Int,j≤k ↔ 0≤sgR (8*s.m-s.p-j*(16*s.m)) (-s.q) s.d):SpotAt s n cs (cs++[(s.turn,max 0 (min (-k) n))]):=by
 refine ⟨by simp,fun h0 c hc=>?_,fun i hi=>?_⟩
 ·rcases List.mem_append.1 hc with g|g
  ·exact h0 c g
  ·rw [List.mem_singleton] at g
   subst g
   dsimp only
   omega
 ·rw [left_append,left_cons,left_nil,←col_hit hd ht h hi]
  dsimp only
  omega
theorem mem_getD {cs:List (Int × Int)} {k:Nat} (h:k<cs.length):cs.getD k (0,0)∈cs:=by
 rw [show cs.getD k (0,0)=cs[k] by simp [h]];exact List.getElem_mem h
theorem crosses_of {e:Edg} {y:Int} {n:Nat} {a b:List (Int × Int)} (hm:mayE e=true) (hy:near1 y=true) (hn:n≤64) (h1:SpotAt (spt1 e y) n [] a) (h2:SpotAt (spt2 e y) n a b):Crosses e y n b:=by
 refine ⟨?_,fun k hk=>h2.bd (h1.bd (fun c hc=>by simp at hc)) _ (mem_getD hk),fun i hi=>?_⟩
 ·have:=h1.len
  have:=h2.len
  simp at *
  omega
 ·rw [h2.col i hi,h1.col i hi,left_nil,Int.zero_add]
  unfold turnG
  rw [hm,hy,show near1 (16*(i:Int)+8)=true by unfold near1;simp;omega]
  rfl
theorem crosses_no {e:Edg} {y:Int} {n:Nat} (hm:mayE e=false):Crosses e y n [] :=
 ⟨by simp,fun k hk=>by simp at hk,fun i hi=>by rw [left_nil];unfold turnG;rw [hm];rfl⟩
set_option maxRecDepth 100000 in
set_option maxHeartbeats 4000000 in
theorem bowLine_calls (e:Edg) (y:Int) (n:Nat) (hy:near1 y=true) (hn:n≤64) (w:World):Calls Tryz.prog 195 #[edgeV e,.int .i64 y,.int .i64 n] w fun r w'=>∃ cs,Crosses e y n cs∧SliceOut 2 (cs.map runC) w r w':=by
 have hL:=Holds.start w
 have HM:=Lib.hid (fun w=>bowMay_calls e w)
 have Hn:=Lib.hid (show [y].all near1=true by simpa using hy)
 cases hm:mayE e with
 | false =>
  have HR:=Lib.hid (crosses_no (y:=y) (n:=n) hm)
  rw [hm] at HM
  clear hm
  generalize Crosses e y n=T at *
  obtain ⟨ex0,ey0,bt,ecx,ecy,ex1,ey1⟩:=e
  unfold edgeV at *
  dsimp only at *
  obtain ⟨n1,n2,n3⟩:=tok3
  go_enter Tryz.func195,Tryz.ntmps195
  go_wp2_with (first|(go_at_call 201;(with_reducible refine (HM.out _).mono ?_);rintro e _ ⟨rfl,hb⟩;replace hL:=hL.call hb;clear hb)|(with_reducible (clear hL n1;intro b1 w1 hL))|((with_reducible refine wpA_lit rfl _ _ _ rfl ?_);first|refine litA1 hL ?_|refine litA2 hL ?_|refine litA3 hL ?_|refine litA4 hL ?_|refine litA6 hL ?_)|((with_reducible refine goJ rfl ?_);refine goW ?_))
  go_ret
  exact ⟨[],HR.out,(((hL.drop .here).newOwn:Holds w _ [own w.heap.size 244 2 (.slice none 0 0) 0 []] []).sliceOut .here (by simp) rfl (runC_len _))⟩
 | true =>
  have hs:=small6_of hm hy
  have HC:=Lib.hid (fun a b=>crosses_of (n:=n) (a:=a) (b:=b) hm hy hn)
  have HS:=Lib.hid (fun w=>spotsG_calls e y hs w)
  have hft:=spt_fit hs (x:=0) (by omega) (by omega)
  have htr:=spt_turn e y
  have HP1:=Lib.hid (spt1_pos e y)
  have HP2:=Lib.hid (spt2_pos e y)
  rw [hm] at HM
  clear hm hs
  generalize Crosses e y n=T at *
  generalize spt1 e y=t1 at *
  generalize spt2 e y=t2 at *
  have HF1:=Lib.hid hft.1
  have HF2:=Lib.hid hft.2
  obtain ⟨p1,p2,p3,p4,p5,p6,p7,p8,p9,p10⟩:=hft.1
  obtain ⟨r1,r2,r3,r4,r5,r6,r7,r8,r9,r10⟩:=hft.2
  obtain ⟨⟨u1,u2⟩,⟨u3,u4⟩⟩:=htr
  clear hft
  obtain ⟨ex0,ey0,bt,ecx,ecy,ex1,ey1⟩:=e
  unfold edgeV at *
  dsimp only at *
  obtain ⟨n1,n2,n3⟩:=tok3
  go_enter Tryz.func195,Tryz.ntmps195
  go_wp2_with (first|(go_at_call 201;(with_reducible refine (HM.out _).mono ?_);rintro e _ ⟨rfl,hb⟩;replace hL:=hL.call hb;clear hb)|(go_at_call 202;(refine (near_calls _ _ [y] (hL.numsLit [y] atO (by rfl))).mono ?_);rintro e _ ⟨rfl,hb⟩;rw [Hn.out];replace hL:=hL.call hb;clear hb)|(go_at_call 203;(with_reducible refine (HS.out _).mono ?_);rintro e _ ⟨rfl,hb⟩;replace hL:=hL.call hb;clear hb)|(with_reducible first|(clear hL n1;intro b1 w1 hL)|(clear hL n2;intro b2 w2 hL))|((with_reducible refine wpA_lit rfl _ _ _ rfl ?_);first|refine litA1 hL ?_|refine litA2 hL ?_|refine litA3 hL ?_|refine litA4 hL ?_|refine litA6 hL ?_)|((with_reducible refine goJ rfl ?_);refine goW ?_))
  go_loopw [7,32] (fun s7 s32 wr=>∃ (k:Nat) (cs:List (Int × Int)),k≤2∧s32=.int .i64 k∧cs.length≤2∧Hid ((k=0→cs=[])∧(k=1→SpotAt t1 n [] cs)∧(k=2→∃ a,SpotAt t1 n [] a∧SpotAt t2 n a cs))∧Holds w wr [own w.heap.size 244 2 s7 cs.length (cs.map runC).flatten] [])
   (fun s7 s32 wr=>2-(intOf s32).toNat)
  case atStart=>exact ⟨0,[],by omega,rfl,by simp,Lib.hid ⟨fun _=>rfl,fun h=>by omega,fun h=>by omega⟩,((hL.drop .here).drop .here).newOwn⟩
  case round =>
   clear hL
   obtain ⟨k,cs,hk,rfl,hcl,hA,hL⟩:=hrel
   rcases (by omega:k=0∨k=1∨k=2) with rfl|rfl|rfl
   ·have hc0:=hA.out.1 rfl
    subst hc0
    rcases (by omega:t1.turn=0∨t1.turn≠0) with ht|ht
    ·have d1:(t1.turn == 0)=true:=by simp [ht]
     have HR0:=Lib.hid (SpotAt.none n [] ht)
     clear ht
     obtain ⟨n1,n2,n3⟩:=tok3
     go_wp2_with (first|((with_reducible refine wpA_index rfl _ _ _ rfl _ rfl _ rfl ?_);refine indexS ?_)|(with_reducible first|(clear hL n1;intro b1 w1 hL)|(clear hL;intro _ hL))|((with_reducible refine wpA_lit rfl _ _ _ rfl ?_);first|refine litA1 hL ?_|refine litA2 hL ?_|refine litA3 hL ?_|refine litA4 hL ?_|refine litA6 hL ?_)|((with_reducible refine goJ rfl ?_);refine goW ?_))
     go_roundw
     case rel=>exact ⟨1,[],by omega,rfl,by simp,Lib.hid ⟨fun h=>by omega,fun _=>HR0.out,fun h=>by omega⟩,hL.drop .here⟩
     case measure=>simp [intOf]
    ·have d1:(t1.turn == 0)=false:=by simp [ht]
     have hm0:=HP1.out ht
     have HK:=Lib.hid (fun w=>rootCut_calls (8*t1.m-t1.p) (-t1.q) t1.d (16*t1.m) (spt_cut HF1.out hm0) w)
     have HR0:=Lib.hid (fun k=>SpotAt.some n [] p7 ht ⟨u1,u2⟩ (k:=k))
     clear ht
     obtain ⟨n1,n2,n3⟩:=tok3
     go_wp2_with (first|((with_reducible refine wpA_index rfl _ _ _ rfl _ rfl _ rfl ?_);refine indexS ?_)|(go_at_call 204;(with_reducible refine (HK.out _).mono ?_);rintro e _ ⟨⟨v,rfl,⟨v1,v2⟩,hv⟩,hb⟩;replace hL:=hL.call hb;clear hb;replace hv:=Lib.hid hv)|(with_reducible first|(clear hL;intro _ _ _ hL;try dsimp only at hL)|(clear hL n1;intro b1 w1 hL)|(clear hL n2;intro b2 w2 hL)|(clear hL;intro _ hL))|((with_reducible refine wpA_lit rfl _ _ _ rfl ?_);first|refine litA1 hL ?_|refine litA2 hL ?_|refine litA3 hL ?_|refine litA4 hL ?_|refine litA6 hL ?_)|((with_reducible refine goJ rfl ?_);refine goW ?_))
     go_roundw
     case rel=>exact ⟨1,_,by omega,rfl,by simp,Lib.hid ⟨fun h=>by omega,fun _=>HR0.out v hv.out,fun h=>by omega⟩,hL.drop .here⟩
     case measure=>simp [intOf]
   ·have hc1:=Lib.hid (hA.out.2.1 rfl)
    have hc2:=hc1.out.len
    simp only [List.length_nil,Nat.zero_add] at hc2
    rcases (by omega:t2.turn=0∨t2.turn≠0) with ht|ht
    ·have d1:(t2.turn == 0)=true:=by simp [ht]
     have HR0:=Lib.hid (SpotAt.none n cs ht)
     clear ht
     obtain ⟨n1,n2,n3⟩:=tok3
     go_wp2_with (first|((with_reducible refine wpA_index rfl _ _ _ rfl _ rfl _ rfl ?_);refine indexS ?_)|(with_reducible first|(clear hL n1;intro b1 w1 hL)|(clear hL;intro _ hL))|((with_reducible refine wpA_lit rfl _ _ _ rfl ?_);first|refine litA1 hL ?_|refine litA2 hL ?_|refine litA3 hL ?_|refine litA4 hL ?_|refine litA6 hL ?_)|((with_reducible refine goJ rfl ?_);refine goW ?_))
     go_roundw
     case rel=>exact ⟨2,cs,by omega,rfl,hcl,Lib.hid ⟨fun h=>by omega,fun h=>by omega,fun _=>⟨_,hc1.out,HR0.out⟩⟩,hL.drop .here⟩
     case measure=>simp [intOf]
    ·have d1:(t2.turn == 0)=false:=by simp [ht]
     have hm0:=HP2.out ht
     have HK:=Lib.hid (fun w=>rootCut_calls (8*t2.m-t2.p) (-t2.q) t2.d (16*t2.m) (spt_cut HF2.out hm0) w)
     have HR0:=Lib.hid (fun k=>SpotAt.some n cs r7 ht ⟨u3,u4⟩ (k:=k))
     clear ht
     obtain ⟨n1,n2,n3⟩:=tok3
     go_wp2_with (first|((with_reducible refine wpA_index rfl _ _ _ rfl _ rfl _ rfl ?_);refine indexS ?_)|(go_at_call 204;(with_reducible refine (HK.out _).mono ?_);rintro e _ ⟨⟨v,rfl,⟨v1,v2⟩,hv⟩,hb⟩;replace hL:=hL.call hb;clear hb;replace hv:=Lib.hid hv)|(with_reducible first|(clear hL;intro _ _ _ hL;try dsimp only at hL)|(clear hL n1;intro b1 w1 hL)|(clear hL n2;intro b2 w2 hL)|(clear hL;intro _ hL))|((with_reducible refine wpA_lit rfl _ _ _ rfl ?_);first|refine litA1 hL ?_|refine litA2 hL ?_|refine litA3 hL ?_|refine litA4 hL ?_|refine litA6 hL ?_)|((with_reducible refine goJ rfl ?_);refine goW ?_))
     go_roundw
     case rel =>
      refine ⟨2,cs++[(t2.turn,max 0 (min (-v) n))],by omega,rfl,by simp;omega,Lib.hid ⟨fun h=>by omega,fun h=>by omega,fun _=>⟨_,hc1.out,HR0.out v hv.out⟩⟩,?_⟩
      simp only [List.length_append,List.map_append,List.flatten_append,List.length_cons,List.length_nil]
      exact hL.drop .here
     case measure=>simp [intOf]
   ·obtain ⟨a,ha,hb⟩:=hA.out.2.2 rfl
    have HE:=Lib.hid (HC.out a cs ha hb)
    clear ha hb
    go_wp2_with (first|(with_reducible first|(clear hL;intro _ _ _ hL;try dsimp only at hL)|(clear hL n1;intro b1 w1 hL)|(clear hL n2;intro b2 w2 hL)|(clear hL n3;intro b3 w3 hL)|(clear hL;intro _ _ hL)|(clear hL;intro _ hL))|((with_reducible refine wpA_lit rfl _ _ _ rfl ?_);first|refine litA1 hL ?_|refine litA2 hL ?_|refine litA3 hL ?_|refine litA4 hL ?_|refine litA6 hL ?_)|((with_reducible refine goJ rfl ?_);refine goW ?_))
    go_ret
    exact ⟨cs,HE.out,hL.sliceOut .here (by simp) rfl (runC_len _)⟩
end Go.Proofs.YtmnoeoecjfhhbaaGreat
