/- Package scan: Region, its rows by number; reading a row. -/
import Derived.Test.YtmnoeoecjfhhbaaGreatBwlM
import Derived.Test.YtmnoeoecjfhhbaaGreatRgnM
import Derived.Test.YtmnoeoecjfhhbaaGreatShM
namespace Go.Proofs.YtmnoeoecjfhhbaaGreat
open Go.RowKit
def atOf (cs:List (Int × Int)) (k:Nat):Int:=(cs.map fun c=>if c.2=(k:Int) then c.1 else 0).sum
theorem atOf_append (a b:List (Int × Int)) (k:Nat):atOf (a++b) k=atOf a k+atOf b k:=by simp [atOf]
theorem atOf_one (c:Int × Int) (k:Nat):atOf [c] k=if c.2=(k:Int) then c.1 else 0:=by simp [atOf]
theorem left_step (cs:List (Int × Int)) (i:Nat):left cs i=left cs ((i+1:Nat):Int)+atOf cs (i+1):=by
 induction cs with
 | nil=>rfl
 | cons c cs ih =>
  have e:atOf (c::cs) (i+1)=(if c.2=((i+1:Nat):Int) then c.1 else 0)+atOf cs (i+1):=by simp [atOf]
  rw [left_cons,left_cons,e,ih]
  (repeat' split) <;> omega
def InCols (n:Nat) (cs:List (Int × Int)):Prop:=∀ c∈cs,0≤c.2∧c.2≤n ∧ -1≤c.1∧c.1≤1
theorem left_end {n:Nat} {cs:List (Int × Int)} (h:InCols n cs):left cs n=0:=by
 induction cs with
 | nil=>rfl
 | cons c cs ih =>
  rw [left_cons,ih (fun c hc=>h c (List.mem_cons_of_mem _ hc)),if_neg]
  ·rfl
  ·have:=h c List.mem_cons_self;omega
theorem atOf_bd {n:Nat} {cs:List (Int × Int)} (h:InCols n cs) (k:Nat) : -(cs.length:Int)≤atOf cs k∧atOf cs k≤cs.length:=by
 induction cs with
 | nil=>simp [atOf]
 | cons c cs ih =>
  have e:atOf (c::cs) k=(if c.2=(k:Int) then c.1 else 0)+atOf cs k:=by simp [atOf]
  have:=ih (fun c hc=>h c (List.mem_cons_of_mem _ hc))
  have:=h c List.mem_cons_self
  rw [e,List.length_cons]
  split <;> omega
theorem left_bd {n:Nat} {cs:List (Int × Int)} (h:InCols n cs) (k:Int) : -(cs.length:Int)≤left cs k∧left cs k≤cs.length:=by
 induction cs with
 | nil=>simp [left]
 | cons c cs ih =>
  have:=ih (fun c hc=>h c (List.mem_cons_of_mem _ hc))
  have:=h c List.mem_cons_self
  rw [left_cons,List.length_cons]
  split <;> omega
theorem Crosses.cols {e:Edg} {y:Int} {n:Nat} {cs:List (Int × Int)} (h:Crosses e y n cs):InCols n cs:=by
 intro c hc
 obtain ⟨k,hk,rfl⟩:=List.mem_iff_getElem.1 hc
 have:=h.bd k hk
 rwa [show cs.getD k (0,0)=cs[k] by simp [hk]] at this
theorem InCols.append {n:Nat} {a b:List (Int × Int)} (h:InCols n a) (k:InCols n b):InCols n (a++b):=by
 intro c hc
 rcases List.mem_append.1 hc with g|g
 ·exact h c g
 ·exact k c g
theorem InCols.take {n:Nat} {a:List (Int × Int)} (h:InCols n a) (k:Nat):InCols n (a.take k):=fun c hc=>h c (List.mem_of_mem_take hc)
structure ScanAt (l:List Edg) (y:Int) (n:Nat) (k:Nat) (cs:List (Int × Int)):Prop where
 len:cs.length≤2*k
 cols:InCols n cs
 col:∀ i:Nat,i<n→left cs i=windG (l.take k) (16*(i:Int)+8) y
theorem ScanAt.start (l:List Edg) (y:Int) (n:Nat):ScanAt l y n 0 []:=⟨by simp,fun c hc=>by simp at hc,fun i _=>by simp [left,windG]⟩
theorem ScanAt.step {l:List Edg} {y:Int} {n k:Nat} {a b:List (Int × Int)} (h:ScanAt l y n k a) (hk:k<l.length) (hc:Crosses (l.getD k default) y n b):ScanAt l y n (k+1) (a++b):=by
 refine ⟨?_,h.cols.append hc.cols,fun i hi=>?_⟩
 ·have:=h.len;have:=hc.len;simp;omega
 ·rw [left_append,h.col i hi,hc.col i hi,windG_step hk]
theorem atOf_up {a cs:List (Int × Int)} {k:Nat} (hk:k<cs.length) {K:Nat} {t:Int} (h1:(cs.getD k (0,0)).1=t) (h2:(cs.getD k (0,0)).2=(K:Int)):arrI 65 (fun j=>if j=K then atOf (a++cs.take k) K+t else atOf (a++cs.take k) j)=arrI 65 (atOf (a++cs.take (k+1))):=by
 congr 1
 funext j
 rw [List.take_succ_eq_append_getElem hk,←List.append_assoc,atOf_append _ [cs[k]],atOf_one]
 rw [show cs.getD k (0,0)=cs[k] by simp [hk]] at h1 h2
 rw [h1,h2]
 by_cases h:j=K
 ·subst h;rw [if_pos rfl,if_pos rfl]
 ·rw [if_neg h,if_neg (by omega),Int.add_zero]
def downRuns (p:Nat→Bool) (n:Nat):Nat→List (Int × Int)
 | 0=>[]
 | k+1=>downRuns p n k++(if p (n-(k+1)) then [(((n-(k+1):Nat):Int),((n-(k+1):Nat):Int)+1)] else [])
theorem downRuns_len (p:Nat→Bool) (n:Nat):∀ k,(downRuns p n k).length≤k
 | 0=>by simp [downRuns]
 | k+1=>by
  have:=downRuns_len p n k
  rw [downRuns,List.length_append]
  split <;> simp <;> omega
theorem downRuns_in (p:Nat→Bool) {n:Nat} (hn:n≤64) (i:Nat):∀ k,k≤n→inRuns (downRuns p n k) i=(decide (n-k≤i)&&(decide (i<n)&&p i))
 | 0,_=>by
  rw [downRuns,inRuns_nil,Bool.eq_iff_iff]
  simp
  omega
 | k+1,hk=>by
  rw [downRuns,inRuns_append,downRuns_in p hn i k (by omega)]
  obtain ⟨m,hm⟩:∃ m,n-(k+1)=m:=⟨_,rfl⟩
  have hm2:n-k=m+1:=by omega
  rw [hm,hm2]
  by_cases hi:i=m
  ·subst hi
   have h1:i<64:=by omega
   have h2:i<n:=by omega
   cases hp:p i with
   | true =>
    have h3:inRuns (if true=true then [((i:Int),(i:Int)+1)] else []) i=true:=by
     simp [inRuns,inRun];omega
    rw [h3]
    simp [h2]
   | false=>simp [inRuns]
  ·have e:inRuns (if p m then [((m:Int),(m:Int)+1)] else []) i=false:=by
    split
    ·simp [inRuns,inRun];omega
    ·rfl
   rw [e,Bool.or_false]
   have:(m+1≤i) ↔ (m≤i):=by omega
   simp [this]
theorem runs_norm (p:Nat→Bool) {n:Nat} (hn:n≤64):runsTo (shiftP (downRuns p n n) 0 n) 64=runsTo p n:=by
 have e:runsTo (shiftP (downRuns p n n) 0 n) 64=runsTo (fun i=>decide (i<n)&&p i) 64:=by
  refine runsTo_congr fun i hi=>?_
  have hc:cutI (n:Int)=n:=by unfold cutI;omega
  unfold shiftP
  rw [hc,Int.sub_zero,Int.toNat_natCast,downRuns_in p hn i n (Nat.le_refl _),Nat.sub_self,Bool.eq_iff_iff]
  simp
 have e2:rruns (fun i=>decide (i<n)&&p i) 64=rruns p n:=by
  have h:=rruns_const (p:=fun i=>decide (i<n)&&p i) (i:=n) (64-n) (fun j h1 h2=>by simp;omega)
  rw [show n+(64-n)=64 by omega] at h
  rw [h]
  exact rruns_congr n (fun i hi=>by simp [hi])
 rw [e,runsTo,runsTo,e2]
def rowP (l:List Edg) (rule y:Int) (i:Nat):Bool:=isIn rule (windG l (16*(i:Int)+8) y)
open Go.RowKit
theorem wrap_small {n:Int} (h1 : -9223372036854775808≤n) (h2:n≤9223372036854775807):IntKind.i64.wrap n=n:=by rw [IntKind.wrap_i64];omega
theorem run_at {w:World} {a:Option Addr} {n cap j:Nat} {cs:List (Int × Int)} (h:SliceAt w 2 (.slice a n cap) (cs.map runC)) (hj:j<cs.length):∃ b o,a=some ⟨b,o,none⟩∧w.rangeAt b (o+j*2) (runC (cs.getD j (0,0))):=by
 obtain ⟨a3,cap3,e2,_,_,hel2⟩:=h
 injection e2 with e2 _ _
 subst e2
 obtain ⟨b,o,e,hr⟩:=hel2 j (by simpa using hj)
 simp only [List.getElem_map] at hr
 rw [show cs[j]=cs.getD j (0,0) by simp [hj]] at hr
 exact ⟨b,o,e,hr⟩
set_option maxRecDepth 100000 in
set_option maxHeartbeats 4000000 in
theorem scanLine_ok (w:World) (v:Value) (l:List Edg) (hv:EdgesAt w v l) (hlen:l.length≤1152921504606846976) (rule y:Int) (hr:rule=0∨rule=1) (hy:near1 y=true) (n:Nat) (hn:n≤64) :
  Calls Tryz.prog 187 #[v,.int .i64 rule,.int .i64 y,.int .i64 n] w (RunsOut (runsTo (rowP l rule y) n) w):=by
 obtain ⟨a,cap,rfl,hlc,hcm,hel⟩:=hv.parts
 clear hv
 unfold maxLen at hcm
 have Hel:=Lib.hid hel;clear hel
 have hL:=Holds.start w
 have HB:=Lib.hid (fun e w=>bowLine_calls e y n hy hn w)
 have hy2 : -8191≤y∧y≤8191:=by simpa [near1] using hy
 obtain ⟨y1,y2⟩:=hy2
 have h0:=Lib.hid (ScanAt.start l y n)
 have hru:decide (rule≠0∧rule≠1)=false:=by simp;omega
 obtain ⟨I,hI⟩:∃ I:Int→Bool,I=isIn rule:=⟨_,rfl⟩
 obtain ⟨q,hq⟩:∃ q:Nat→Bool,q=rowP l rule y:=⟨_,rfl⟩
 have HP:=Lib.hid (show ∀ cs,ScanAt l y n l.length cs→∀ i:Nat,i<n→I (left cs i)=q i from fun cs h i hi=>by rw [hI,hq,h.col i hi,List.take_length];rfl)
 rw [←hq]
 clear hq
 have HI:=Lib.hid (congrFun hI)
 clear hI
 rcases hr with rfl|rfl
 all_goals
  have n1:True:=trivial
  go_enter Tryz.func187,Tryz.ntmps187
  go_wp2_with (first|(with_reducible first|(clear hL;intro _ _ _ hL;try dsimp only at hL)|(clear hL n1;intro b1 w1 hL)|(clear hL;intro _ _ hL)|(clear hL;intro _ hL))|((with_reducible refine wpA_lit rfl _ _ _ rfl ?_);first|refine litA1 hL ?_|refine litA2 hL ?_|refine litA3 hL ?_|refine litA4 hL ?_|refine litA6 hL ?_)|((with_reducible refine goJ rfl ?_);refine goW ?_))
  generalize b1=ba at *
  go_loopw [41] (fun s41 wr=>∃ (k:Nat) (cs:List (Int × Int)),k≤l.length∧s41=.int .i64 k∧Hid (ScanAt l y n k cs)∧Holds w wr [blk ba (arrI 65 (atOf cs)) 240] [])
   (fun s41 wr=>l.length-(intOf s41).toNat)
  case atStart=>exact ⟨0,[],by omega,rfl,h0,hL⟩
  case round =>
   clear hL
   obtain ⟨k,cs,hk,rfl,hA,hL⟩:=hrel
   by_cases hkt:k<l.length
   ·obtain ⟨b,o,rfl,hc⟩:=Hel.out k hkt
    have HS:=Lib.hid (fun cs2 hc=>hA.out.step (b:=cs2) hkt hc)
    have hal:=hA.out.len
    have HC:=Lib.hid hA.out.cols
    generalize l.getD k default=e at *
    have HE:=Lib.hid (fun w=>HB.out e w)
    obtain ⟨ex0,ey0,bt,ecx,ecy,ex1,ey1⟩:=e
    unfold edgeV at HE
    unfold edgeC at hc
    dsimp only at HE hc
    have hkb:(k:Int)<(l.length:Int):=by omega
    have n1:True:=trivial
    go_wp2_with (first|(go_at_call 195;(with_reducible refine (HE.out _).mono ?_);rintro e _ ⟨cs2,hcs,v2,rfl,hb,hf⟩;replace hL:=hL.callF hb hf;clear hb hf;obtain ⟨a2,cap2,rfl,hl2,hm2,_⟩:=hL.fact0;simp only [List.length_map] at hl2 hL;unfold maxLen at hm2;replace hcs:=Lib.hid hcs)|(with_reducible first|(clear hL n1;intro b1 w1 hL)|(clear hL;intro _ hL))|((with_reducible refine wpA_lit rfl _ _ _ rfl ?_);first|refine litA1 hL ?_|refine litA2 hL ?_|refine litA3 hL ?_|refine litA4 hL ?_|refine litA6 hL ?_)|((with_reducible refine goJ rfl ?_);refine goW ?_))
    generalize b1=be at *
    go_loopw [50] (fun s50 wr=>∃ (j:Nat),j≤cs2.length∧s50=.int .i64 j∧Holds w wr [blk be #[.int .i64 ex0,.int .i64 ey0,.bool bt,.int .i64 ecx,.int .i64 ecy,.int .i64 ex1,.int .i64 ey1] 177,blk ba (arrI 65 (atOf (cs++cs2.take j))) 240] [fun w=>SliceAt w 2 (.slice a2 cs2.length cap2) (cs2.map runC)])
     (fun s50 wr=>cs2.length-(intOf s50).toNat)
    case atStart=>exact ⟨0,by omega,rfl,by rw [List.take_zero,List.append_nil];exact hL⟩
    case round =>
     clear hL
     obtain ⟨j,hj,rfl,hL⟩:=hrel
     by_cases hjt:j<cs2.length
     ·have hin:=hcs.out.cols _ (mem_getD hjt)
      have hl22:=hcs.out.len
      obtain ⟨K,hK⟩:=Int.eq_ofNat_of_zero_le hin.1
      obtain ⟨t,ht⟩:∃ t,(cs2.getD j (0,0)).1=t:=⟨_,rfl⟩
      rw [hK,ht] at hin
      have hA2:=atOf_bd (HC.out.append (hcs.out.cols.take j)) K
      have HU:=Lib.hid (atOf_up (a:=cs) hjt ht hK)
      obtain ⟨b2,o2,rfl,hr2⟩:=run_at hL.fact0 hjt
      simp only [runC] at hr2
      rw [hK,ht] at hr2
      clear hK ht
      rw [List.length_append,List.length_take] at hA2
      generalize atOf (cs++cs2.take j)=A at *
      obtain ⟨i1,i2,i3,i4⟩:=hin
      obtain ⟨g1,g2⟩:=hA2
      have hjb:(j:Int)<(cs2.length:Int):=by omega
      have hwr:IntKind.i64.wrap (A K+t)=A K+t:=wrap_small (by omega) (by omega)
      have hk65:(K:Int)<65:=by omega
      have hk66:¬(65:Int)≤(K:Int):=by omega
      have n1:True:=trivial
      go_wp2_with (first|(with_reducible first|(clear hL;intro _ _ _ hL;try dsimp only at hL)|(clear hL n1;intro b1 w1 hL)|(clear hL;intro _ _ hL)|(clear hL;intro _ hL))|((with_reducible refine wpA_lit rfl _ _ _ rfl ?_);first|refine litA1 hL ?_|refine litA2 hL ?_|refine litA3 hL ?_|refine litA4 hL ?_|refine litA6 hL ?_)|((with_reducible refine goJ rfl ?_);refine goW ?_))
      replace hL:=hL.drew
      have hS:(fun w':World=>w'.cell? ⟨b1,0,none⟩=some (.int .i64 t)∧w'.cell? ⟨b1,1,none⟩=some (.int .i64 K)∧w'.cell? ⟨ba,K,none⟩=some (.int .i64 (A K))) _:=⟨(hL.cell .here).trans rfl,(hL.cell .here).trans rfl,(hL.cell (.there (.there .here))).trans (arrI_get _ (by omega))⟩
      refine wpM_begin (by kernel_rfl) (fun w':World=>w'.cell? ⟨b1,0,none⟩=some (.int .i64 t)∧w'.cell? ⟨b1,1,none⟩=some (.int .i64 K)∧w'.cell? ⟨ba,K,none⟩=some (.int .i64 (A K))) 8 ?_
      refine dsM 0 (.pointer (some ⟨b1,1,none⟩)) hS ?_
      refine drM 1 (.int .i64 K) hS ?_ ?_;(· exact fun w' hw=>(load_cell hw.2.1))
      refine dsM 2 (.pointer (some ⟨ba,K,none⟩)) hS ?_
      refine drM 3 (.int .i64 (A K)) hS ?_ ?_;(· exact fun w' hw=>(load_cell hw.2.2))
      refine dsM 4 (.pointer (some ⟨b1,0,none⟩)) hS ?_
      refine drM 5 (.int .i64 t) hS ?_ ?_;(· exact fun w' hw=>(load_cell hw.1))
      refine dsM 6 (.int .i64 (A K+t)) hS ?_
      refine dsM 7 (.pointer (some ⟨ba,K,none⟩)) hS ?_
      refine wpM_one (i:=8) (by kernel_rfl) (wpOf ?_)
      refine st_store rfl _ _ _ rfl ⟨ba,K,none⟩ rfl (.int .i64 (A K+t)) rfl (storeA hL (hoff:=by rw [arrI_size];omega) (hcs:=arrI_set A (A K+t) (by omega)) ?_)
      clear hL hS
      intro w8 hL
      refine ⟨fun h=>absurd rfl h,wpM_done (by kernel_rfl) ?_⟩
      simp only [Act.put]
      go_wp2_with (first|(with_reducible first|(clear hL;intro _ _ _ hL;try dsimp only at hL)|(clear hL n1;intro b1 w1 hL)|(clear hL;intro _ _ hL)|(clear hL;intro _ hL))|((with_reducible refine wpA_lit rfl _ _ _ rfl ?_);first|refine litA1 hL ?_|refine litA2 hL ?_|refine litA3 hL ?_|refine litA4 hL ?_|refine litA6 hL ?_)|((with_reducible refine goJ rfl ?_);refine goW ?_))
      go_roundw
      case rel=>exact ⟨j+1,by omega,by go_num,by rw [←HU.out];exact hL.drop .here⟩
      case measure=>simp [intOf];omega
     ·have e:j=cs2.length:=by omega
      subst e
      rw [List.take_length] at hL
      go_wp2_with (first|(with_reducible first|(clear hL;intro _ _ _ hL;try dsimp only at hL)|(clear hL n1;intro b1 w1 hL)|(clear hL;intro _ _ hL)|(clear hL;intro _ hL))|((with_reducible refine wpA_lit rfl _ _ _ rfl ?_);first|refine litA1 hL ?_|refine litA2 hL ?_|refine litA3 hL ?_|refine litA4 hL ?_|refine litA6 hL ?_)|((with_reducible refine goJ rfl ?_);refine goW ?_))
      go_roundw
      case rel=>exact ⟨k+1,cs++cs2,by omega,by go_num,Lib.hid (HS.out cs2 hcs.out),(hL.drop .here).forget⟩
      case measure=>simp [intOf];omega
   ·have e:k=l.length:=by omega
    subst e
    have HN:=Lib.hid (left_end hA.out.cols)
    have HBd:=Lib.hid (left_bd hA.out.cols)
    have HAb:=Lib.hid (atOf_bd hA.out.cols)
    have hal:=hA.out.len
    have HSt:=Lib.hid (left_step cs)
    have HQ:=Lib.hid (HP.out cs hA.out)
    obtain ⟨p,hp⟩:∃ p:Nat→Bool,p=fun (i:Nat)=>I (left cs (i:Int)):=⟨_,rfl⟩
    have HE:=Lib.hid (show runsTo p n=runsTo q n from runsTo_congr (fun i hi=>by rw [hp];exact HQ.out i hi))
    have HPd:=Lib.hid (fun i=>congrFun hp i)
    have HNr:=Lib.hid (runs_norm p hn)
    have HLn:=Lib.hid (downRuns_len p n)
    have h00:=Lib.hid HN.out.symm
    clear hp hA HP HQ
    generalize left cs=L at *
    generalize atOf cs=A at *
    go_wp2_with (first|(with_reducible first|(clear hL;intro _ _ _ hL;try dsimp only at hL)|(clear hL n1;intro b1 w1 hL)|(clear hL;intro _ _ hL)|(clear hL;intro _ hL))|((with_reducible refine wpA_lit rfl _ _ _ rfl ?_);first|refine litA1 hL ?_|refine litA2 hL ?_|refine litA3 hL ?_|refine litA4 hL ?_|refine litA6 hL ?_)|((with_reducible refine goJ rfl ?_);refine goW ?_))
    go_loopw [14,15,16] (fun s14 s15 s16 wr=>∃ (i k:Nat),i+k=n∧s16=.int .i64 ((i:Int)-1)∧s15=.int .i64 (L i)∧Holds w wr [own w.heap.size 124 2 s14 (downRuns p n k).length ((downRuns p n k).map runC).flatten,blk ba (arrI 65 A) 240] [])
     (fun s14 s15 s16 wr=>(intOf s16+1).toNat)
    case atStart=>exact ⟨n,0,by omega,by go_num,by rw [←h00.out],hL.newOwn⟩
    case round =>
     clear hL
     obtain ⟨i,k,hik,rfl,rfl,hL⟩:=hrel
     have hdl:=HLn.out k
     rcases i with _|m
     ·have e:k=n:=by omega
      subst e
      go_wp2_with (first|(go_at_call 132;(have hR:=Lib.hid (show RunsAt _ _ (downRuns p k k) from own_sliceAt (hL.at .here) (by simp) rfl (runC_len _)));(with_reducible refine (spanNorm_calls _ _ _ hR.out _).mono ?_);rintro e _ ⟨v,rfl,hb,hf⟩;replace hL:=hL.callF hb hf;clear hb hf)|((with_reducible refine wpA_lit rfl _ _ _ rfl ?_);first|refine litA1 hL ?_|refine litA2 hL ?_|refine litA3 hL ?_|refine litA4 hL ?_|refine litA6 hL ?_))
      go_ret
      rw [←HE.out,←HNr.out]
      exact hL.out0
     ·have hst:=HSt.out m
      have hb1:=HBd.out ((m+1:Nat):Int)
      have hb2:=HAb.out (m+1)
      have hpm:=HPd.out m
      have HD:=Lib.hid (show downRuns p n (k+1)=downRuns p n k++(if p m then [((m:Int),(m:Int)+1)] else []) by rw [downRuns,show n-(k+1)=m by omega])
      have hst':=Lib.hid hst
      clear hst
      rw [hst'.out] at hpm
      have e1:(((m+1:Nat):Int)-1)=(m:Int):=by omega
      rw [e1]
      generalize L ((m+1:Nat):Int)=g at *
      have eb:=and_bitX (g+A (m+1))
      rw [HI.out] at hpm
      cases hpp:p m with
      | true =>
       rw [hpp] at hpm HD
       have hpm':=hpm.symm
       first
        | have d1:((g+A (m+1))%2 != 0)=true:=by simpa [isIn] using hpm'
        | have d1:(g+A (m+1) != 0)=true:=by simpa [isIn] using hpm'
       clear hpm hpm'
       go_wp2_with (first|(with_reducible first|(clear hL;intro _ _ _ hL;try dsimp only at hL)|(clear hL n1;intro b1 w1 hL)|(clear hL;intro _ _ hL)|(clear hL;intro _ hL))|((with_reducible refine wpA_lit rfl _ _ _ rfl ?_);first|refine litA1 hL ?_|refine litA2 hL ?_|refine litA3 hL ?_|refine litA4 hL ?_|refine litA6 hL ?_)|((with_reducible refine goJ rfl ?_);refine goW ?_))
       go_roundw
       case rel =>
        refine ⟨m,k+1,by omega,by go_num,by rw [hst'.out],?_⟩
        rw [HD.out,if_pos rfl]
        simp only [List.length_append,List.map_append,List.flatten_append,List.length_cons,List.length_nil]
        first|exact hL.drop .here|exact hL
       case measure=>simp [intOf] <;> omega
      | false =>
       rw [hpp] at hpm HD
       have hpm':=hpm.symm
       first
        | have d1:((g+A (m+1))%2 != 0)=false:=by simpa [isIn] using hpm'
        | have d1:(g+A (m+1) != 0)=false:=by simpa [isIn] using hpm'
       clear hpm hpm'
       go_wp2_with (first|(with_reducible first|(clear hL;intro _ _ _ hL;try dsimp only at hL)|(clear hL n1;intro b1 w1 hL)|(clear hL;intro _ _ hL)|(clear hL;intro _ hL))|((with_reducible refine wpA_lit rfl _ _ _ rfl ?_);first|refine litA1 hL ?_|refine litA2 hL ?_|refine litA3 hL ?_|refine litA4 hL ?_|refine litA6 hL ?_)|((with_reducible refine goJ rfl ?_);refine goW ?_))
       go_roundw
       case rel =>
        refine ⟨m,k+1,by omega,by go_num,by rw [hst'.out],?_⟩
        rw [HD.out,if_neg (by decide),List.append_nil]
        exact hL
       case measure=>simp [intOf] <;> omega
open Go.RowKit
def lineReg (l:List Edg) (rule:Int) (W H:Nat):Reg:=⟨W,H,(List.range H).map fun (j:Nat)=>runsTo (rowP l rule (16*(j:Int)+8)) W⟩
structure Sds (W H:Nat):Prop where
 w0:0<W
 w1:W≤64
 h0:0<H
 h1:H≤64
set_option maxRecDepth 100000 in
set_option maxHeartbeats 4000000 in
theorem scanRegion_ok {W H:Nat} (hs:Sds W H) (w:World) (v:Value) (l:List Sg) (hv:SegsAt w v l) (hm:pathMay l=true) (rule:Int) (hr:rule=0∨rule=1) :
  Calls Tryz.prog 182 #[v,.int .i64 rule,.int .i64 W,.int .i64 H] w (RegOut (lineReg (edgesS l) rule W H) 0 w):=by
 have Hv:=Lib.hid hv
 obtain ⟨a,cap,rfl,_⟩:=hv.parts
 clear hv
 have hw0:=hs.w0;have hw1:=hs.w1;have hh0:=hs.h0;have hh1:=hs.h1
 clear hs
 have HM:=Lib.hid hm
 clear hm
 have hlen:(edgesS l).length≤1152921504606846976:=Nat.le_trans (edgesS_len l) (by omega)
 have HE:=Lib.hid (fun w' hv=>edges_calls w' (.slice a l.length cap) l hv)
 have HR:=Lib.hid (show lineReg (edgesS l) rule W H=⟨W,H,(List.range H).map fun (j:Nat)=>runsTo (rowP (edgesS l) rule (16*(j:Int)+8)) W⟩ from rfl)
 generalize edgesS l=E at *
 have HI:=Lib.hid (show ∀ w' ve (j:Nat),j<H→EdgesAt w' ve E→Calls Tryz.prog 187 #[ve,.int .i64 rule,.int .i64 (16*(j:Int)+8),.int .i64 W] w' (RunsOut ((fun (j:Nat)=>runsTo (rowP E rule (16*(j:Int)+8)) W) j) w') from
  fun w' ve j hj hv=>scanLine_ok w' ve E hv hlen rule _ hr (by unfold near1;simp;omega) W hw1)
 generalize (fun (j:Nat)=>runsTo (rowP E rule (16*(j:Int)+8)) W)=row at *
 clear hlen
 have hL:=Holds.start w
 have hr2:(rule != 0)=false∨((rule != 0)=true∧(rule != 1)=false):=by rcases hr with h|h <;> subst h <;> simp
 clear hr
 rcases hr2 with hr3|⟨hr3,hr4⟩
 all_goals
  obtain ⟨n1,n2,n3⟩:=tok3
  go_enter Tryz.func182,Tryz.ntmps182
  go_wp2_with (first|(go_at_call 45;(with_reducible refine (pathMay_calls _ _ l (Hv.out.hold hL)).mono ?_);rintro e _ ⟨rfl,hb⟩;rw [HM.out];replace hL:=hL.call hb;clear hb)|(go_at_call 186;(with_reducible refine (HE.out _ (Hv.out.hold hL)).mono ?_);rintro e _ ⟨ve,rfl,hb,hf⟩;obtain ⟨ea,ec,rfl,_⟩:=EdgesAt.parts hf.now;replace hL:=hL.callF hb hf;clear hb hf)|(with_reducible first|(clear hL n1;intro b1 w1 hL)|(clear hL n2;intro b2 w2 hL)|(clear hL n3;intro b3 w3 hL)|(clear hL;intro _ hL))|((with_reducible refine goJ rfl ?_);refine goW ?_))
  go_loopw [51] (fun s51 wr=>∃ (j:Nat) (cs:Array Value),j≤H∧s51=.int .i64 j∧cs.size=H ∧
    Holds w wr [blk b3 #[.int .i64 W,.int .i64 H,.slice (some ⟨b2,0,none⟩) H H] 39,blk b2 cs 115,blk b1 #[.int .i64 0,.int .i64 0,.slice none 0 0] 39]
     [fun w=>∀ i,i<j→∃ v,cs[i]?=some v∧RunsAt w v (row i),fun w=>EdgesAt w (.slice ea E.length ec) E])
   (fun s51 wr=>(H-intOf s51).toNat)
  case atStart=>exact ⟨0,_,by omega,rfl,by simp,hL.triv (fun _ i hi=>by omega)⟩
  case round =>
   clear hL
   obtain ⟨j,cs,hj,rfl,hcs,hL⟩:=hrel
   have Hcs:=Lib.hid hcs;clear hcs
   by_cases hlt:j<H
   ·have hj2:(j:Int)<(H:Int):=by omega
    have hw16:IntKind.i64.wrap (16*(j:Int))=16*(j:Int):=wrap_small (by omega) (by omega)
    have hw8:IntKind.i64.wrap (16*(j:Int)+8)=16*(j:Int)+8:=wrap_small (by omega) (by omega)
    go_wp2_with (first|(with_reducible (clear hL;intro _ hL))|((with_reducible refine goJ rfl ?_);refine goW ?_))
    replace hL:=hL.drew
    have hS:(fun w':World=>w'.cell? ⟨b3,2,none⟩=some (.slice (some ⟨b2,0,none⟩) H H)) _:=(hL.cell (o:=2) .here).trans rfl
    refine wpM_begin (by kernel_rfl) (fun w':World=>w'.cell? ⟨b3,2,none⟩=some (.slice (some ⟨b2,0,none⟩) H H)) 11 ?_
    refine dsM 0 (.pointer (some ⟨b3,2,none⟩)) hS ?_
    refine drM 1 (.slice (some ⟨b2,0,none⟩) H H) hS ?_ ?_;(· exact fun w' hw=>(load_cell hw))
    refine dsM 2 (.int .i64 j) hS ?_
    refine dsM 3 (.slice ea E.length ec) hS ?_
    refine dsM 4 (.int .i64 rule) hS ?_
    refine dsM 5 (.int .i64 j) hS ?_
    refine dsM 6 (.int .i64 (16*(j:Int))) hS ?_
    refine dsM 7 (.int .i64 (16*(j:Int)+8)) hS ?_
    refine dsM 8 (.int .i64 W) hS ?_
    refine wpM_one (i:=9) (by kernel_rfl) (wpOf ?_)
    refine st_call rfl 187 #[.slice ea E.length ec,.int .i64 rule,.int .i64 (16*(j:Int)+8),.int .i64 W] (by go_simp) (HI.out _ _ j hlt hL.fact1) ?_
    rintro e w3 ⟨v3,rfl,hb,hf⟩
    obtain ⟨sa,sn,sc,rfl⟩:=SliceAt.shape hf.now
    replace hL:=hL.callF hb hf
    clear hb hf hS
    have hS:(fun w':World=>w'.cell? ⟨b3,2,none⟩=some (.slice (some ⟨b2,0,none⟩) H H)) w3:=(hL.cell (o:=2) .here).trans rfl
    refine ⟨_,rfl,fun _=>hS,?_⟩
    simp only [Act.put,setP]
    refine dsM 10 (.pointer (some ⟨b2,j,none⟩)) hS ?_
    refine wpM_one (i:=11) (by kernel_rfl) (wpOf ?_)
    refine st_store rfl _ _ _ rfl ⟨b2,j,none⟩ rfl (.slice sa sn sc) rfl (storeA hL (cs':=cs.setIfInBounds j (.slice sa sn sc)) (hu:=.there .here) (hoff:=by rw [Hcs.out];exact hlt) (hcs:=rfl) ?_)
    clear hL hS
    intro w8 hL
    refine ⟨fun h=>absurd rfl h,wpM_done (by kernel_rfl) ?_⟩
    simp only [Act.put]
    go_wp2
    go_roundw
    case rel =>
     refine ⟨j+1,cs.setIfInBounds j (.slice sa sn sc),by omega,by go_num,by rw [Array.size_setIfInBounds];exact Hcs.out,hL.join fun w' h1 h2 i hi=>?_⟩
     by_cases hij:i=j
     ·subst hij
      exact ⟨_,by rw [Array.getElem?_setIfInBounds,if_pos rfl,if_pos (by rw [Hcs.out];exact hlt)],h1⟩
     ·obtain ⟨v',e1,e2⟩:=h2 i (by omega)
      exact ⟨v',by rw [Array.getElem?_setIfInBounds,if_neg (fun e=>hij e.symm)];exact e1,e2⟩
    case measure=>simp [intOf];omega
   ·have e:j=H:=by omega
    subst e
    go_wp2_with (first|(with_reducible (clear hL;intro _ hL))|((with_reducible refine goJ rfl ?_);refine goW ?_))
    refine bodyPost_ret (results_row2 inferInstance rfl _ hL b1 rfl _ _ (.there (.there .here)) rfl) rfl ⟨_,rfl,hL.below,?_⟩
    rw [HR.out]
    refine ((hL.settle (.there .here) (φ:=fun w=>w.heap[b2]?=some (.cells cs 115 (0,0))) fun _ h=>h).join fun w' h1 h2=>?_).fresh
    exact ⟨_,rfl,by simpa using rows_of h1 Hcs.out (by unfold maxLen;omega) h2⟩
open Go.RowKit
open Go.RowKit
open Go.RowKit
theorem row_get {w:World} {a:Option Addr} {n c:Nat} {rows:List (List (Int × Int))} (h:RowsAt w (.slice a n c) rows) {j:Nat} (hj:j<n):∃ b o u,a=some ⟨b,o,none⟩∧w.cell? ⟨b,o+j,none⟩=some u∧RunsAt w u (rows.getD j []):=by
 obtain ⟨vs,hlen,⟨a',cap,e,_,_,hel⟩,hr⟩:=h
 injection e with e1 e2 e3
 subst e1
 simp only [List.length_map] at e2 hel
 subst e2
 obtain ⟨b,o,e,hc⟩:=hel j hj
 subst e
 have hv:=hc 0 vs[j] (by simp)
 simp only [Nat.mul_one,Nat.add_zero] at hv
 exact ⟨b,o,vs[j],rfl,hv,hr j vs[j] (by simp [hj])⟩
def RowsF (s:Value) (H:Nat) (F:Nat→List (Int × Int)) (w:World):Prop:=RowsAt w s ((List.range H).map F)
theorem RowsF.get {w:World} {a:Option Addr} {H c:Nat} {F:Nat→List (Int × Int)} (h:RowsF (.slice a H c) H F w) {j:Nat} (hj:j<H):∃ b o u,a=some ⟨b,o,none⟩∧w.cell? ⟨b,o+j,none⟩=some u∧RunsAt w u (F j):=by
 obtain ⟨b,o,u,h1,h2,h3⟩:=row_get h hj
 refine ⟨b,o,u,h1,h2,?_⟩
 simpa [hj] using h3
end Go.Proofs.YtmnoeoecjfhhbaaGreat
