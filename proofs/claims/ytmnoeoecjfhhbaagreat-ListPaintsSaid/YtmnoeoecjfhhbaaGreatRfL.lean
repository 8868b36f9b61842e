/- ListBands returns true. -/
import Derived.Laws.CopyOwn
import Derived.Test.YtmnoeoecjfhhbaaGreatLLi
namespace Go.Proofs.YtmnoeoecjfhhbaaGreat
open Go.RowKit
set_option maxRecDepth 100000 in
set_option maxHeartbeats 8000000 in
theorem inkNewO_calls {W H:Nat} (hs:Sides W H) (w:World):Calls Tryz.prog 60 #[.int .i64 W,.int .i64 H] w fun e w'=>∃ b,e=.returned (.tuple #[.agg #[.int .i64 W,.int .i64 H,.slice (some ⟨b,0,none⟩) (3*W*H) (3*W*H)],.int .i64 0])∧Holds w w' [blk b (arrU (3*W*H) fun _=>255) 5] []:=by
 obtain ⟨m1,m2,m3,m4⟩:=page_mul hs
 have HW:=Lib.hid (fun w=>inkSide_calls (W:Int) w)
 have HH:=Lib.hid (fun w=>inkSide_calls (H:Int) w)
 rw [side_nat hs.w0 hs.w1] at HW
 rw [side_nat hs.h0 hs.h1] at HH
 have hw0:=hs.w0;have hw1:=hs.w1;have hh0:=hs.h0;have hh1:=hs.h1
 generalize hN:3*W*H=N at *
 clear hN
 have hL:=Holds.start w
 obtain ⟨n1,n2,n3⟩:=tok3
 go_enter Tryz.func60,Tryz.ntmps60
 go_wp2_with (first|(go_at_call 94;(with_reducible first|refine (HW.out _).mono ?_|refine (HH.out _).mono ?_);rintro e _ ⟨rfl,rfl⟩)|((with_reducible refine wpA_make rfl _ _ _ rfl _ rfl rfl ?_);refine makeP N (by omega) (by omega) hL ?_)|(with_reducible first|(clear hL n1;intro b1 w1 hL)|(clear hL n2;intro b2 w2 hL)|(clear hL n3;intro b3 w3 hL)|(clear hL;intro _ hL))|((with_reducible refine goJ rfl ?_);refine goP ?_))
 rw [show arrU N (fun _=>0)=arrU N (fun x=>if x<0 then 255 else 0) from arrU_congr fun x _=>by simp] at hL
 go_loopw [28] (fun s28 wr=>∃ k:Nat,k≤N∧s28=.int .i64 k∧Holds w wr [blk b3 #[.int .i64 W,.int .i64 H,.slice (some ⟨b2,0,none⟩) N N] 53,blk b2 (arrU N (fun x=>if x<k then 255 else 0)) 5,blk b1 #[.int .i64 0,.int .i64 0,.slice none 0 0] 53] [])
  (fun s28 wr=>N-(intOf s28).toNat)
 case atStart=>exact ⟨0,by omega,rfl,hL⟩
 case round =>
  clear hL
  obtain ⟨k,hk,rfl,hL⟩:=hrel
  by_cases hkt:k<N
  ·have hkb:(k:Int)<(N:Int):=by omega
   go_wp2_with (first|(with_reducible (clear hL;intro _ hL))|((with_reducible refine goJ rfl ?_);refine goP ?_))
   go_roundw
   case rel =>
    rw [ones_put] at hL
    exact ⟨k+1,by omega,by go_num,hL⟩
   case measure=>simp [intOf];omega
  ·have e:k=N:=by omega
   subst e
   go_wp2_with (first|(with_reducible (clear hL;intro _ hL))|((with_reducible refine goJ rfl ?_);refine goP ?_))
   refine bodyPost_ret (results_row2 inferInstance rfl _ hL b1 rfl _ _ (by (repeat (first|with_reducible exact At.here|with_reducible apply At.there))) rfl) rfl ⟨b2,rfl,?_⟩
   have h9:=(hL.drop .here).drop (.there .here)
   rwa [show arrU k (fun x=>if x<k then (255:Int) else 0)=arrU k (fun _=>255) from arrU_congr fun x hx=>by rw [if_pos hx]] at h9
theorem band_start (W:Nat) (a:Int) (F:Nat→Int) (N:Nat):arrU N (fun _=>255)=arrU N (bandF W a a F):=arrU_congr fun x _=>by unfold bandF;rw [if_neg (by omega)]
theorem band_step {W N D j o:Nat} {a:Int} (F:Nat→Int) (hD:3*W=D) (ho:D*j=o) (h0:0<D) (ha:a≤(j:Int)) (_:o+D≤N):arrU N (fun x=>if o≤x∧x<o+D then F (o+(x-o)) else bandF W a (j:Int) F x)=arrU N (bandF W a ((j+1:Nat):Int) F):=by
 refine arrU_congr fun x _=>?_
 subst hD;subst ho
 unfold bandF
 by_cases h:3*W*j≤x∧x<3*W*j+3*W
 ·have e:x / (3*W)=j:=by
   refine Nat.div_eq_of_lt_le (by rw [Nat.mul_comm];exact h.1) ?_
   rw [Nat.mul_comm (j+1),Nat.mul_add,Nat.mul_one];exact h.2
  rw [if_pos h,e,if_pos (by omega),show 3*W*j+(x-3*W*j)=x by omega]
 ·have e:¬x / (3*W)=j:=by
   intro e
   have h1:=Nat.div_add_mod x (3*W)
   have h2:=Nat.mod_lt x h0
   rw [e] at h1
   omega
  rw [if_neg h]
  have:((x / (3*W):Nat):Int)<((j+1:Nat):Int) ↔ ((x / (3*W):Nat):Int)<(j:Int):=by omega
  simp only [this]
theorem band_end {W H N:Nat} {f t j:Int} (F:Nat→Int) (hN:3*W*H=N) (hj:j≤max f 0∨j≤min t (H:Int)) (hj0:max f 0≤j) (hjt:¬j<min t (H:Int)):∀ n,n<N→bandF W (max f 0) j F n=bandF W f t F n:=by
 intro n hn
 subst hN
 have hr:n / (3*W)<H:=Nat.div_lt_of_lt_mul (by rwa [Nat.mul_comm] at hn ⊢)
 unfold bandF
 generalize n / (3*W)=r at *
 have:(max f 0≤(r:Int)∧(r:Int)<j) ↔ (f≤(r:Int)∧(r:Int)<t):=by omega
 simp only [this]
theorem st_copyA {P:Program} {ops:Array Oper} {Q:Exit→Act→World→Prop} {o:Oper} {K:Act→World→Prop} {a:Act} {w0 w:World} {M M':List Res} {Φ:List (World→Prop)} (hgd:Region.wanted o (yielded ops a.tmps)=true) (d s:Operand) (dT sT:TypeId)
  (ho:o.op=.call { callee:=.builtin .copy,args:=#[d,s],argTypes:=#[dT,sT] }) (elem:TypeId) (hu:P.underlying dT=some (.slice elem)) (hsz:(P.info? elem).map (·.size)=some 1)
  (g off dLen dCap:Nat) (ad:Addr) (sLen sCap:Nat) (hd:a.eval d=.slice (some ⟨g,off,none⟩) dLen dCap) (hs:a.eval s=.slice (some ad) sLen sCap)
  (hL:Holds w0 w M Φ) {n D:Nat} {f F:Nat→Int} {t:TypeId} (hat:At M (blk g (arrU n f) t)) (hn:D=Nat.min sLen dLen) (hfit:off+D≤n)
  (hsrc:∀ j,j<D→w.cell? (ad.add j)=some (.int .u8 (F j))) (hup:Upd M (blk g (arrU n f) t) (blk g (arrU n (fun x=>if off≤x∧x<off+D then F (x-off) else f x)) t) M')
  (h:∀ w',Holds w0 w' M' Φ→K (a.put o.dst (goInt D)) w'):wpStep P ops Q o K a w:=by
 have hg:w.heap[g]?=some (.cells (arrU n f) t (0,0)):=hL.at hat
 have l1:(arrU D F).toList.length=D:=by rw [Array.length_toList,arrU_size]
 have hrun:=run_copy_row (P:=P) w dT sT o.type elem g off dLen dCap ad sLen sCap (arrU n f) t (arrU D F).toList hu hsz hg (by rw [l1];exact hn) (fun j v hj=>by
  by_cases hjD:j<D
  ·rw [Array.getElem?_toList,arrU_get _ hjD] at hj
   cases hj
   exact hsrc j hjD
  ·rw [List.getElem?_eq_none (by rw [l1];omega)] at hj
   cases hj) (by rw [l1,arrU_size];exact hfit) (cells_one _ _)
 rw [List.append_assoc,copy_arrU f F hfit,l1] at hrun
 refine st_run hgd _ _ ?_ (h _ (hL.setRow hup))
 unfold execOp
 simp [ho,resolve,invoke,builtin,hd,hs,hrun]
open Go.RowKit
def PixF (pb po N:Nat) (F:Nat→Int) (w:World):Prop:=∀ i,i<N→w.cell? ⟨pb,po+i,none⟩=some (.int .u8 (F i))
theorem PixF.add {pb po N o D:Nat} {F:Nat→Int} {w:World} (h:PixF pb po N F w) (hb:o+D≤N) (i:Nat) (hi:i<D):w.cell? ((⟨pb,po+o,none⟩:Addr).add i)=some (.int .u8 (F (o+i))):=by
 have hadd:(⟨pb,po+o,none⟩:Addr).add i=⟨pb,po+(o+i),none⟩:=by unfold Addr.add;split <;> simp_all [Nat.add_assoc]
 rw [hadd]
 exact h (o+i) (by omega)
def PageIs (W H N:Nat) (F:Nat→Int) (w:World) (e:Ending) (w':World):Prop:=∃ pb po c,(e=.returned (.tuple #[.agg #[.int .i64 W,.int .i64 H,.slice (some ⟨pb,po,none⟩) N c],.int .i64 0])∧N≤c∧c≤2^63-1)∧Below w.heap.size w w'∧Fresh w w' (PixF pb po N F)
set_option maxRecDepth 100000 in
set_option maxHeartbeats 16000000 in
theorem listBand_core (how:Int) {W H:Nat} (hs:Sides W H) (w:World) (v:Value) (F:Nat→Int)
  (HP0:∀ w',Below w.heap.size w w'→Calls Tryz.prog 22 #[v,.int .i64 W,.int .i64 H,.int .i64 how] w' (PageIs W H (3*W*H) F w')) (f t:Int):Calls Tryz.prog 25 #[v,.int .i64 W,.int .i64 H,.int .i64 f,.int .i64 t,.int .i64 how] w (PageOut W H (bandF W f t F) w):=by
 obtain ⟨m1,m2,m3,m4⟩:=page_mul hs
 have hw0:=hs.w0;have hw1:=hs.w1;have hh0:=hs.h0;have hh1:=hs.h1
 have HN:=Lib.hid (fun w=>inkNewO_calls hs w)
 obtain ⟨N,hN⟩:∃ N,3*W*H=N:=⟨_,rfl⟩
 obtain ⟨D,hD⟩:∃ D,3*W=D:=⟨_,rfl⟩
 have hDH:D*H=N:=by rw [←hD,hN]
 have hp:0<N:=by rw [←hDH];exact Nat.mul_pos (by omega) (by omega)
 rw [hN] at HP0
 have HP:=Lib.hid HP0
 have HS:=Lib.hid (fun a F=>band_start W a F N)
 have HT:=Lib.hid (fun (j o:Nat) (a:Int) (F:Nat→Int) (ho:D*j=o) (ha:a≤(j:Int)) (hb:o+D≤N)=>band_step (W:=W) F hD ho (by omega) ha hb)
 have HE:=Lib.hid (fun (j:Int) F=>band_end (W:=W) (H:=H) (f:=f) (t:=t) (j:=j) F hN)
 have HNe:=Lib.hid hN
 clear HP0
 rw [hN] at HN m1
 have q1:IntKind.i64.wrap (3*(W:Int))=(D:Int):=by rw [m3,←hD];simp
 have hD9:D≤192:=by omega
 have hD1:0<D:=by omega
 clear m2 m3 m4 hN hs
 have hL:=Holds.start w
 obtain ⟨n1,n2,n3⟩:=tok3
 go_enter Tryz.func25,Tryz.ntmps25
 go_wp2_with (first|(go_at_call 22;(with_reducible refine (HP.out _ hL.below).mono ?_);rintro e _ ⟨pb,po,pc,⟨rfl,hpc1,hpc2⟩,hb,hf⟩;replace hL:=hL.callF hb hf;clear hb hf)|(go_at_call 60;(with_reducible refine (HN.out _).mono ?_);rintro e _ ⟨bn,rfl,hk⟩;replace hL:=hL.comp hk;clear hk;dsimp only [List.cons_append,List.nil_append] at hL)|(with_reducible first|(clear hL n1;intro b1 w1 hL)|(clear hL n2;intro b2 w2 hL)|(clear hL;intro _ hL))|((with_reducible refine goJ rfl ?_);refine goP ?_))
 rw [HS.out (max f 0) F] at hL
 go_loopw [15] (fun s15 wr=>∃ j:Int,max f 0≤j∧(j≤max f 0∨j≤min t (H:Int))∧s15=.int .i64 j∧Holds w wr [blk bn (arrU N (bandF W (max f 0) j F)) 5,blk b2 #[.int .i64 W,.int .i64 H,.slice (some ⟨pb,po,none⟩) N pc] 53,blk b1 #[.int .i64 W,.int .i64 H,.slice (some ⟨bn,0,none⟩) N N] 53] [PixF pb po N F])
  (fun s15 wr=>(min t (H:Int)-intOf s15).toNat)
 case atStart=>exact ⟨max f 0,by omega,by omega,rfl,hL⟩
 case round =>
  clear hL
  obtain ⟨j,hj0,hj1,rfl,hL⟩:=hrel
  by_cases hjt:j<min t (H:Int)
  ·obtain ⟨k,rfl⟩:=Int.eq_ofNat_of_zero_le (show 0≤j by omega)
   obtain ⟨o,ho⟩:∃ o,D*k=o:=⟨_,rfl⟩
   have hoN:o+D≤N:=by
    have:=Nat.mul_le_mul_left D (show k+1≤H by omega)
    rw [Nat.mul_add,Nat.mul_one] at this
    omega
   have q2:IntKind.i64.wrap ((D:Int)*(k:Int))=(o:Int):=by rw [←ho,Int.natCast_mul];exact wrapS (by rw [←Int.natCast_mul];omega) (by rw [←Int.natCast_mul];omega)
   have q3:IntKind.i64.wrap ((k:Int)+1)=(k:Int)+1:=wrapS (by omega) (by omega)
   obtain ⟨e,he⟩:∃ e,o+D=e:=⟨_,rfl⟩
   have he1:o≤e:=by omega
   have he2:e≤N:=by omega
   have he3:e≤pc:=by omega
   have he4:D=e-o:=by omega
   have q4:IntKind.i64.wrap ((D:Int)*((k:Int)+1))=(e:Int):=by
    rw [←he]
    rw [Int.mul_add,Int.mul_one,←Int.natCast_mul,ho,←Int.natCast_add];exact wrapS (by omega) (by omega)
   have hne:¬N=o:=by omega
   have hne2:¬pc=o:=by omega
   have HTk:=Lib.hid (HT.out k o (max f 0) F ho hj0 hoN)
   have He4:=Lib.hid he4
   clear ho he he4
   go_wp2_with (first|(with_reducible (clear hL;intro _ hL))|((with_reducible refine goJ rfl ?_);refine goP ?_))
   replace hL:=hL.drew
   refine wpV_begin (by kernel_rfl) (fun (_:Nat) (w':World)=>∃ g:Nat→Int,Holds w w' [blk bn (arrU N g) 5,blk b2 #[.int .i64 W,.int .i64 H,.slice (some ⟨pb,po,none⟩) N pc] 53,blk b1 #[.int .i64 W,.int .i64 H,.slice (some ⟨bn,0,none⟩) N N] 53] [PixF pb po N F]) 24 ?_
   refine deV 0 (fun _ _=>⟨_,hL⟩) ?_
   refine dlV 1 ?_ (fun _ _=>⟨_,hL⟩) (fun w' hw=>?_) ?_;rotate_left;(· obtain ⟨g9,hw⟩:=hw;refine loadA hw ?_;rfl)
   simp only [Act.put,setP]
   refine deV 2 (fun _ _=>⟨_,hL⟩) ?_
   refine deV 3 (fun _ _=>⟨_,hL⟩) ?_
   refine deV 4 (fun _ _=>⟨_,hL⟩) ?_
   refine deV 5 (fun _ _=>⟨_,hL⟩) ?_
   refine deV 6 (fun _ _=>⟨_,hL⟩) ?_
   refine deV 7 (fun _ _=>⟨_,hL⟩) ?_
   refine deV 8 (fun _ _=>⟨_,hL⟩) ?_
   refine deV 9 (fun _ _=>⟨_,hL⟩) ?_
   refine deV 10 (fun _ _=>⟨_,hL⟩) ?_
   refine deV 11 (fun _ _=>⟨_,hL⟩) ?_
   refine deV 12 (fun _ _=>⟨_,hL⟩) ?_
   refine dlV 13 ?_ (fun _ _=>⟨_,hL⟩) (fun w' hw=>?_) ?_;rotate_left;(· obtain ⟨g9,hw⟩:=hw;refine loadA hw ?_;rfl)
   simp only [Act.put,setP]
   refine deV 14 (fun _ _=>⟨_,hL⟩) ?_
   refine deV 15 (fun _ _=>⟨_,hL⟩) ?_
   refine deV 16 (fun _ _=>⟨_,hL⟩) ?_
   refine deV 17 (fun _ _=>⟨_,hL⟩) ?_
   refine deV 18 (fun _ _=>⟨_,hL⟩) ?_
   refine deV 19 (fun _ _=>⟨_,hL⟩) ?_
   refine deV 20 (fun _ _=>⟨_,hL⟩) ?_
   refine deV 21 (fun _ _=>⟨_,hL⟩) ?_
   refine deV 22 (fun _ _=>⟨_,hL⟩) ?_
   refine deV 23 (fun _ _=>⟨_,hL⟩) ?_
   refine wpV_one (i:=24) (by kernel_rfl) (wpOf ?_)
   refine st_copyA rfl _ _ _ _ rfl 5 (by kernel_rfl) (by kernel_rfl) bn o _ _ ⟨pb,po+o,none⟩ _ _ rfl rfl hL (n:=N) (D:=D) (f:=bandF W (max f 0) (k:Int) F) (F:=fun i=>F (o+i)) .here ?_ hoN (hL.fact0.add hoN) Upd.here ?_
   (· rw [←He4.out];exact (Nat.min_self D).symm)
   (try clear hV);clear hL;intro w9 hL
   refine ⟨fun _ _=>⟨_,hL⟩,?_⟩
   simp only [Act.put,setP]
   refine wpV_done (by kernel_rfl) ?_
   rw [HTk.out] at hL
   go_wp2_with (first|(with_reducible (clear hL;intro _ hL))|((with_reducible refine goJ rfl ?_);refine goP ?_))
   go_roundw
   case rel=>exact ⟨((k+1:Nat):Int),by omega,by omega,by go_num,hL⟩
   case measure=>simp [intOf];omega
  ·have HEj:=Lib.hid (HE.out j F hj1 hj0 (by omega))
   go_wp2_with (first|(with_reducible (clear hL;intro _ hL))|((with_reducible refine goJ rfl ?_);refine goP ?_))
   refine bodyPost_ret (results_row2 inferInstance rfl _ hL b1 rfl _ _ (.there (.there .here)) rfl) rfl ?_
   have hr:=HNe.out
   subst hr
   refine ⟨_,_,rfl,hL.below,?_⟩
   refine ((hL.settle .here (φ:=fun w=>w.heap[bn]?=some (.cells (arrU (3*W*H) (bandF W (max f 0) j F)) 5 (0,0))) fun _ h=>h).map fun w' h1=>?_).fresh
   refine ⟨_,rfl,?_⟩
   have h9:=bytes_of h1 (by unfold maxLen;omega)
   rwa [show (List.range (3*W*H)).map (bandF W (max f 0) j F)=(List.range (3*W*H)).map (bandF W f t F) from List.map_congr_left fun x hx=>HEj.out x (by simpa using hx)] at h9
open Go.RowKit
set_option maxRecDepth 100000 in
set_option maxHeartbeats 8000000 in
theorem listBand_no (how:Int) (w:World) (v:Value) (Wi Hi er:Int) (her:er≠0)
  (HP0:∀ w',Below w.heap.size w w'→Calls Tryz.prog 22 #[v,.int .i64 Wi,.int .i64 Hi,.int .i64 how] w' fun e w2=>e=.returned (.tuple #[.agg #[.int .i64 0,.int .i64 0,.slice none 0 0],.int .i64 er])∧Below w'.heap.size w' w2) (f t:Int):Calls Tryz.prog 25 #[v,.int .i64 Wi,.int .i64 Hi,.int .i64 f,.int .i64 t,.int .i64 how] w fun e w'=>e=.returned (.tuple #[.agg #[.int .i64 0,.int .i64 0,.slice none 0 0],.int .i64 er])∧Below w.heap.size w w':=by
 have HP:=Lib.hid HP0
 have hE1:(er != 0)=true:=by simp [her]
 clear HP0 her
 have hL:=Holds.start w
 obtain ⟨n1,n2,n3⟩:=tok3
 go_enter Tryz.func25,Tryz.ntmps25
 go_wp2_with (first|(go_at_call 22;(with_reducible refine (HP.out _ hL.below).mono ?_);rintro e _ ⟨rfl,hb⟩;replace hL:=hL.call hb;clear hb)|(with_reducible first|(clear hL n1;intro b1 w1 hL)|(clear hL n2;intro b2 w2 hL)|(clear hL;intro _ hL))|((with_reducible refine goJ rfl ?_);refine goP ?_))
 exact bodyPost_ret (results_row2 inferInstance rfl _ hL b1 rfl _ _ (.there .here) rfl) rfl ⟨rfl,hL.below⟩
open Go.RowKit
theorem page_is {W H N:Nat} {G:Nat→Int} {w:World} {e:Ending} {w':World} (hN:3*W*H=N) (hp:0<N) (h:PageOut W H G w e w'):PageIs W H N G w e w':=by
 obtain ⟨a,c,rfl,hb,hf⟩:=h
 subst hN
 obtain ⟨a2,c2,e2,h2,h3,h4⟩:=hf.now.shape
 cases e2
 obtain ⟨pb,po,rfl,_⟩:=PageF.cell h4 hp
 unfold maxLen at h3
 refine ⟨pb,po,c,⟨rfl,h2,h3⟩,hb,hf.mono fun w2 h5 i hi=>?_⟩
 obtain ⟨a3,c3,e3,_,_,h6⟩:=h5.shape
 cases e3
 obtain ⟨b',o',e',hc⟩:=PageF.cell h6 hi
 cases e'
 exact hc
theorem page_ok {l:List Itm} {W H N:Nat} {w:World} {e:Ending} {w':World} (hN:3*W*H=N) (hp:0<N) (h:PaintOut l W H w e w') (h0:paintErr l W H=0):PageIs W H N (paintL W l) w e w':=by
 obtain ⟨W',H',hW,hH,_,h1⟩:=h.1 h0
 have eW:W'=W:=by omega
 have eH:H'=H:=by omega
 subst eW;subst eH
 exact page_is hN hp h1
theorem listBand_ok {how:Int} {E:Prop} (Wy:WayE how E) {W H:Nat} (hs:Sides W H) (w:World) (v:Value) (l:List Itm) (hv:ItmsAt w v l) (hE:∀ i∈l,i.kind=2→E) (h0:paintErr l W H=0) (f t:Int):Calls Tryz.prog 25 #[v,.int .i64 W,.int .i64 H,.int .i64 f,.int .i64 t,.int .i64 how] w (PageOut W H (bandF W f t (paintL W l)) w) :=
 listBand_core how hs w v (paintL W l) (fun w' hb=>(listPaintE_calls Wy w' v l (hv.below hb) (W:Int) (H:Int) hE).mono fun e w2 h=>page_ok rfl (Nat.mul_pos (Nat.mul_pos (by decide) hs.w0) hs.h0) h h0) f t
end Go.Proofs.YtmnoeoecjfhhbaaGreat
