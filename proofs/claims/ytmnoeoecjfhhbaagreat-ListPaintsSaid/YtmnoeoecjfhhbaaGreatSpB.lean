/- Runs, rows and regions. -/
import Derived.Test.YtmnoeoecjfhhbaaGreatWndM
import Derived.Deep.RegionHeld3
namespace Go.Proofs.YtmnoeoecjfhhbaaGreat
open Go.RowKit
def inRun (r:Int × Int) (i:Nat):Bool:=decide (max 0 r.1≤(i:Int))&&decide ((i:Int)<min r.2 64)
def inRuns (l:List (Int × Int)) (i:Nat):Bool:=l.any fun r=>inRun r i
def rruns (p:Nat→Bool):Nat→List (Int × Int)
 | 0=>[]
 | n+1=>if p n then (match rruns p n with
   | (f,t)::r=>if t=(n:Int) then (f,(n:Int)+1)::r else ((n:Int),(n:Int)+1)::(f,t)::r
   | []=>[((n:Int),(n:Int)+1)]) else rruns p n
def runsTo (p:Nat→Bool) (n:Nat):List (Int × Int):=(rruns p n).reverse
theorem rruns_off {p:Nat→Bool} {n:Nat} (h:p n=false):rruns p (n+1)=rruns p n:=by
 simp [rruns,h]
theorem runsTo_off {p:Nat→Bool} {n:Nat} (h:p n=false):runsTo p (n+1)=runsTo p n:=by
 simp [runsTo,rruns_off h]
theorem rruns_inv (p:Nat→Bool):∀ n,(∀ f t r,rruns p n=(f,t)::r→0≤f∧f<t∧t≤(n:Int)∧(t=(n:Int) ↔ 0<n∧p (n-1)=true))∧(rruns p n=[]→0<n→p (n-1)=false)
 | 0=>⟨fun f t r h=>by simp [rruns] at h,fun _ h=>by omega⟩
 | n+1=>by
  obtain ⟨h1,h2⟩:=rruns_inv p n
  cases hp:p n with
  | false =>
   rw [rruns_off hp]
   refine ⟨fun f t r h=>?_,fun _ _=>by simpa using hp⟩
   obtain ⟨a,b,c,d⟩:=h1 f t r h
   refine ⟨a,b,by omega,?_⟩
   simp only [Nat.add_sub_cancel,hp]
   constructor
   ·intro e;omega
   ·intro e;exact absurd e.2 (by simp)
  | true =>
   simp only [rruns,hp,if_true,Nat.add_sub_cancel]
   cases hr:rruns p n with
   | nil =>
    refine ⟨fun f t r h=>?_,fun h=>by simp at h⟩
    simp at h
    obtain ⟨⟨rfl,rfl⟩,rfl⟩:=h
    refine ⟨by omega,by omega,by omega,?_⟩
    simp
   | cons a r0 =>
    obtain ⟨f0,t0⟩:=a
    obtain ⟨a1,b1,c1,d1⟩:=h1 f0 t0 r0 hr
    simp only
    by_cases e:t0=(n:Int)
    ·rw [if_pos e]
     refine ⟨fun f t r h=>?_,fun h=>by simp at h⟩
     simp at h
     obtain ⟨⟨rfl,rfl⟩,rfl⟩:=h
     refine ⟨by omega,by omega,by omega,?_⟩
     simp
    ·rw [if_neg e]
     refine ⟨fun f t r h=>?_,fun h=>by simp at h⟩
     simp at h
     obtain ⟨⟨rfl,rfl⟩,rfl⟩:=h
     refine ⟨by omega,by omega,by omega,?_⟩
     simp
theorem rruns_new {p:Nat→Bool} {n:Nat} (h:p n=true) (h0:n=0∨p (n-1)=false):rruns p (n+1)=((n:Int),(n:Int)+1)::rruns p n:=by
 obtain ⟨h1,_⟩:=rruns_inv p n
 simp only [rruns,h,if_true]
 cases hr:rruns p n with
 | nil=>rfl
 | cons a r =>
  obtain ⟨f,t⟩:=a
  obtain ⟨_,_,_,d⟩:=h1 f t r hr
  have hne:¬t=(n:Int):=by
   intro e
   obtain ⟨d1,d2⟩:=d.1 e
   rcases h0 with h0|h0
   ·omega
   ·rw [h0] at d2;cases d2
  simp only [if_neg hne]
theorem rruns_more {p:Nat→Bool} {n:Nat} (h:p n=true) (h0:0<n) (h1:p (n-1)=true):∃ f r,rruns p n=(f,(n:Int))::r∧rruns p (n+1)=(f,(n:Int)+1)::r:=by
 obtain ⟨i1,i2⟩:=rruns_inv p n
 cases hr:rruns p n with
 | nil=>have:=i2 hr h0;rw [h1] at this;cases this
 | cons a r =>
  obtain ⟨f,t⟩:=a
  obtain ⟨_,_,_,d⟩:=i1 f t r hr
  have e:=d.2 ⟨h0,h1⟩
  subst e
  exact ⟨f,r,rfl,by simp [rruns,h,hr]⟩
theorem rruns_run {p:Nat→Bool} {i:Nat} (h0:i=0∨p (i-1)=false):∀ k,(∀ j,i≤j→j<i+(k+1)→p j=true)→rruns p (i+(k+1))=((i:Int),((i+(k+1):Nat):Int))::rruns p i
 | 0,h=>rruns_new (h i (Nat.le_refl _) (by omega)) h0
 | k+1,h=>by
  have ih:=rruns_run h0 k (fun j h1 h2=>h j h1 (by omega))
  have hp:p (i+(k+1))=true:=h _ (by omega) (by omega)
  have e:rruns p (i+(k+1)+1)=(match rruns p (i+(k+1)) with
   | (f,t)::r=>if t=((i+(k+1):Nat):Int) then (f,((i+(k+1):Nat):Int)+1)::r else (((i+(k+1):Nat):Int),((i+(k+1):Nat):Int)+1)::(f,t)::r
   | []=>[(((i+(k+1):Nat):Int),((i+(k+1):Nat):Int)+1)]):=by rw [rruns,if_pos hp]
  rw [←Nat.add_assoc i (k+1) 1,e,ih]
  simp only [if_true]
  rfl
theorem runsTo_run {p:Nat→Bool} {i e:Nat} (h0:i=0∨p (i-1)=false) (hie:i<e) (h:∀ j,i≤j→j<e→p j=true):runsTo p e=runsTo p i++[((i:Int),(e:Int))]:=by
 obtain ⟨k,rfl⟩:∃ k,e=i+(k+1):=⟨e-i-1,by omega⟩
 rw [runsTo,rruns_run h0 k h,List.reverse_cons,runsTo]
theorem rruns_congr {p q:Nat→Bool}:∀ n,(∀ i,i<n→p i=q i)→rruns p n=rruns q n
 | 0,_=>rfl
 | n+1,h=>by
  have:=rruns_congr n fun i hi=>h i (by omega)
  simp only [rruns,this,h n (by omega)]
theorem runsTo_congr {p q:Nat→Bool} {n:Nat} (h:∀ i,i<n→p i=q i):runsTo p n=runsTo q n:=by
 rw [runsTo,runsTo,rruns_congr n h]
theorem inRuns_nil (i:Nat):inRuns [] i=false:=rfl
theorem inRuns_append (l m:List (Int × Int)) (i:Nat):inRuns (l++m) i=(inRuns l i || inRuns m i):=by simp [inRuns]
theorem inRuns_reverse (l:List (Int × Int)) (i:Nat):inRuns l.reverse i=inRuns l i:=by
 rw [Bool.eq_iff_iff];simp [inRuns]
theorem inRuns_rruns (p:Nat→Bool):∀ n,n≤64→∀ i,inRuns (rruns p n) i=(decide (i<n)&&p i)
 | 0,_,i=>by simp [rruns,inRuns]
 | n+1,hn,i=>by
  have ih:=inRuns_rruns p n (by omega) i
  cases hp:p n with
  | false =>
   rw [rruns_off hp,ih]
   by_cases e:i=n
   ·subst e;simp [hp]
   ·have:(i<n+1) ↔ i<n:=by omega
    simp [this]
  | true =>
   by_cases hc:n=0∨p (n-1)=false
   ·rw [rruns_new hp hc]
    have hh:inRuns (((n:Int),(n:Int)+1)::rruns p n) i=(inRun ((n:Int),(n:Int)+1) i || inRuns (rruns p n) i):=rfl
    rw [hh,ih]
    by_cases e:i=n
    ·subst e;simp [inRun,hp];omega
    ·have h1:inRun ((n:Int),(n:Int)+1) i=false:=by simp [inRun];omega
     have h2:(i<n+1) ↔ i<n:=by omega
     simp [h1,h2]
   ·have hc':0<n∧p (n-1)=true:=by
     rcases Nat.eq_zero_or_pos n with h|h
     ·exact absurd (.inl h) hc
     ·exact ⟨h,by cases hq:p (n-1) with
       | false=>exact absurd (.inr hq) hc
       | true=>rfl⟩
    obtain ⟨f,r,e1,e2⟩:=rruns_more hp hc'.1 hc'.2
    obtain ⟨i1,_⟩:=rruns_inv p n
    obtain ⟨b0,b1,b2,_⟩:=i1 _ _ _ e1
    have hh:inRuns ((f,(n:Int)+1)::r) i=(inRun (f,(n:Int)+1) i || inRuns r i):=rfl
    have hh2:inRuns ((f,(n:Int))::r) i=(inRun (f,(n:Int)) i || inRuns r i):=rfl
    rw [e2,hh]
    rw [e1,hh2] at ih
    by_cases e:i=n
    ·subst e
     have h1:inRun (f,(i:Int)+1) i=true:=by simp [inRun];omega
     simp [h1,hp]
    ·have h1:inRun (f,(n:Int)+1) i=inRun (f,(n:Int)) i:=by
      rw [Bool.eq_iff_iff];simp [inRun];omega
     have h2:(i<n+1) ↔ i<n:=by omega
     rw [h1,ih];simp [h2]
theorem inRuns_runsTo (p:Nat→Bool) {n:Nat} (hn:n≤64) (i:Nat):inRuns (runsTo p n) i=(decide (i<n)&&p i):=by
 rw [runsTo,inRuns_reverse,inRuns_rruns p n hn i]
def mayFrom (at_:Int) (w:Int):List (Int × Int)→Bool
 | []=>true
 | r::l=>decide (at_<r.1)&&(decide (r.1<r.2)&&(decide (r.2≤w)&&mayFrom r.2 w l))
def mayRuns (l:List (Int × Int)) (w:Int):Bool:=decide (0≤w)&&(decide (w≤64)&&mayFrom (-1) w l)
def lastTo (at_:Int):List (Int × Int)→Int
 | []=>at_
 | r::l=>lastTo r.2 l
theorem mayFrom_append (at_ w:Int):∀ (l m:List (Int × Int)),mayFrom at_ w (l++m)=(mayFrom at_ w l&&mayFrom (lastTo at_ l) w m)
 | [],m=>by simp [mayFrom,lastTo]
 | r::l,m=>by simp [mayFrom,lastTo,mayFrom_append r.2 w l m,Bool.and_assoc]
theorem lastTo_append (at_:Int):∀ (l:List (Int × Int)) (r:Int × Int),lastTo at_ (l++[r])=r.2
 | [],r=>rfl
 | s::l,r=>by simp [lastTo,lastTo_append s.2 l r]
theorem mayFrom_mono {w w':Int} (h:w≤w'):∀ (l:List (Int × Int)) (at_:Int),mayFrom at_ w l=true→mayFrom at_ w' l=true
 | [],_,_=>rfl
 | r::l,at_,k=>by
  simp [mayFrom] at k ⊢
  exact ⟨k.1,k.2.1,by omega,mayFrom_mono h l r.2 k.2.2.2⟩
theorem mayFrom_runsTo (p:Nat→Bool):∀ n:Nat,mayFrom (-1) n (runsTo p n)=true∧lastTo (-1) (runsTo p n)≤n∧(lastTo (-1) (runsTo p n)=n ↔ 0<n∧p (n-1)=true)
 | 0=>by simp [runsTo,rruns,mayFrom,lastTo]
 | n+1=>by
  obtain ⟨h1,h2,h3⟩:=mayFrom_runsTo p n
  have mono:mayFrom (-1) ((n+1:Nat):Int) (runsTo p n)=true:=mayFrom_mono (by omega) _ _ h1
  cases hp:p n with
  | false =>
   rw [runsTo_off hp]
   refine ⟨mono,by omega,?_⟩
   simp only [Nat.add_sub_cancel,hp]
   constructor
   ·intro e;exact absurd e (by omega)
   ·intro e;exact absurd e.2 (by simp)
  | true =>
   by_cases hc:n=0∨p (n-1)=false
   ·have e:runsTo p (n+1)=runsTo p n++[((n:Int),(n:Int)+1)]:=by rw [runsTo,rruns_new hp hc,List.reverse_cons,runsTo]
    have hlt:lastTo (-1) (runsTo p n)<n:=by
     rcases Int.lt_or_eq_of_le h2 with h|h
     ·exact h
     ·obtain ⟨a,b⟩:=h3.1 h
      rcases hc with hc|hc
      ·omega
      ·rw [hc] at b;cases b
    rw [e,mayFrom_append,lastTo_append]
    refine ⟨?_,by simp,?_⟩
    ·simp only [mono,Bool.true_and];simp [mayFrom];omega
    ·simp [hp]
   ·have hc':0<n∧p (n-1)=true:=by
     rcases Nat.eq_zero_or_pos n with h|h
     ·exact absurd (.inl h) hc
     ·exact ⟨h,by cases hq:p (n-1) with
       | false=>exact absurd (.inr hq) hc
       | true=>rfl⟩
    obtain ⟨f,r,e1,e2⟩:=rruns_more hp hc'.1 hc'.2
    have e3:runsTo p n=r.reverse++[(f,(n:Int))]:=by rw [runsTo,e1,List.reverse_cons]
    have e4:runsTo p (n+1)=r.reverse++[(f,(n:Int)+1)]:=by rw [runsTo,e2,List.reverse_cons]
    rw [e3,mayFrom_append] at mono
    rw [e4,mayFrom_append,lastTo_append]
    simp [mayFrom] at mono ⊢
    refine ⟨⟨mono.1,mono.2.1,by omega⟩,hp⟩
theorem mayRuns_runsTo (p:Nat→Bool) {n:Nat} (hn:n≤64):mayRuns (runsTo p n) n=true:=by
 simp [mayRuns,(mayFrom_runsTo p n).1];omega
theorem rruns_const {p:Nat→Bool} {i:Nat}:∀ k,(∀ j,i≤j→j<i+k→p j=false)→rruns p (i+k)=rruns p i
 | 0,_=>rfl
 | k+1,h=>by
  rw [←Nat.add_assoc,rruns_off (h _ (by omega) (by omega)),rruns_const k fun j h1 h2=>h j h1 (by omega)]
theorem inRuns_before {w:Int}:∀ (l:List (Int × Int)) (at_:Int) (i:Nat),mayFrom at_ w l=true→(i:Int)≤at_→inRuns l i=false
 | [],_,_,_,_=>rfl
 | r::l,at_,i,h,hi=>by
  simp [mayFrom] at h
  have hh:inRuns (r::l) i=(inRun r i || inRuns l i):=rfl
  rw [hh,inRuns_before l r.2 i h.2.2.2 (by omega)]
  simp [inRun];omega
theorem runsTo_places_aux {w:Nat} (hw:w≤64):∀ (l:List (Int × Int)) (at_:Int) (i:Nat) (p:Nat→Bool),mayFrom at_ w l=true → -1≤at_→(i:Int)=max 0 at_→i≤w→(∀ j,i≤j→j<w→p j=inRuns l j)→(at_ = -1→i=0)→(0<i→i<w→p i=false) →
  rruns p w=l.reverse++rruns p i
 | [],at_,i,p,_,_,_,hiw,hp,_,_=>by
  have:=rruns_const (p:=p) (i:=i) (w-i) (fun j h1 h2=>by rw [hp j h1 (by omega)];rfl)
  rw [show i+(w-i)=w by omega] at this
  simpa using this
 | (f,t)::l,at_,i,p,h,hat,hi,hiw,hp,h0,hpi=>by
  simp [mayFrom] at h
  obtain ⟨hf,hft,htw,hm⟩:=h
  obtain ⟨F,rfl⟩:=Int.eq_ofNat_of_zero_le (show 0≤f by omega)
  obtain ⟨T,rfl⟩:=Int.eq_ofNat_of_zero_le (show 0≤t by omega)
  have hFT:F<T:=by omega
  have hTw:T≤w:=by omega
  have hiF:i≤F:=by omega
  have hin:∀ j,inRuns (((F:Int),(T:Int))::l) j=(inRun ((F:Int),(T:Int)) j || inRuns l j):=fun j=>rfl
  have off:∀ j,i≤j→j<F→p j=false:=fun j h1 h2=>by
   rw [hp j h1 (by omega),hin,inRuns_before l T j hm (by omega)]
   simp [inRun];omega
  have on:∀ j,F≤j→j<T→p j=true:=fun j h1 h2=>by
   rw [hp j (by omega) (by omega),hin]
   simp [inRun];left;omega
  have e1:=rruns_const (p:=p) (i:=i) (F-i) (fun j h1 h2=>off j h1 (by omega))
  rw [show i+(F-i)=F by omega] at e1
  have start:F=0∨p (F-1)=false:=by
   rcases Nat.eq_zero_or_pos F with h|h
   ·exact .inl h
   ·refine .inr (off (F-1) ?_ (by omega))
    rcases Nat.lt_or_ge i F with h'|h'
    ·omega
    ·have e:i=F:=by omega
     have:at_<(F:Int):=hf
     omega
  have e2:=rruns_run start (T-F-1) (fun j h1 h2=>on j h1 (by omega))
  rw [show F+(T-F-1+1)=T by omega] at e2
  have after:∀ j,T≤j→j<w→p j=inRuns l j:=fun j h1 h2=>by
   rw [hp j (by omega) h2,hin]
   have:inRun ((F:Int),(T:Int)) j=false:=by simp [inRun];omega
   simp [this]
  have e3:=runsTo_places_aux hw l T T p hm (by omega) (by omega) hTw after (by omega) (fun _ hT=>by
   rw [after T (Nat.le_refl _) hT,inRuns_before l T T hm (by omega)])
  rw [e3,e2,e1]
  simp
theorem runsTo_places {w:Nat} {l:List (Int × Int)} (h:mayRuns l w=true):runsTo (inRuns l) w=l:=by
 simp [mayRuns] at h
 have:=runsTo_places_aux (by omega) l (-1) 0 (inRuns l) h.2 (by omega) (by omega) (by omega) (fun _ _ _=>rfl) (fun _=>rfl) (fun h=>by omega)
 rw [runsTo,this]
 simp [rruns]
theorem runsTo_eq {w:Nat} {l:List (Int × Int)} (h:mayRuns l w=true) {p:Nat→Bool} (hp:∀ i,i<w→inRuns l i=p i):runsTo p w=l:=by
 rw [←runsTo_congr hp,runsTo_places h]
def runC (r:Int × Int):List Value:=[.int .i64 r.1,.int .i64 r.2]
def RunsAt (w:World) (v:Value) (l:List (Int × Int)):Prop:=SliceAt w 2 v (l.map runC)
def RunsOut (l:List (Int × Int)) (w:World):Ending→World→Prop:=SliceOut 2 (l.map runC) w
theorem Holds.sliceOut {w0 w:World} {M M':List Res} {Φ:List (World→Prop)} {B:Nat} {e:TypeId} {k:Nat} {v:Value} {n:Nat} {xs:List Value} (h:Holds w0 w M Φ) (hr:Rem M (own B e k v n xs) M')
  {els:List (List Value)} (hn:n=els.length) (hx:xs=els.flatten) (hk:∀ e∈els,e.length=k):SliceOut k els w0 (.returned v) w :=
 ⟨v,rfl,h.below,(h.settle hr (φ:=fun w=>SliceAt w k v els) fun _ hw=>own_sliceAt hw hn hx hk).fresh⟩
def ofMid (l:List (Int × Int)) (k:Nat) (f:Int) (j:Int) (i:Nat):Bool:=inRuns (l.take k) i || (decide (max 0 f≤(i:Int))&&decide ((i:Int)<j))
theorem ofMid_start (l:List (Int × Int)) (k:Nat) (f:Int):ofMid l k f (max 0 f)=inRuns (l.take k):=by
 funext i;simp [ofMid];omega
theorem ofMid_step (l:List (Int × Int)) (k:Nat) (f:Int) (j:Nat) (h:max 0 f≤(j:Int)):(fun i=>if i=j then true else ofMid l k f j i)=ofMid l k f ((j:Int)+1):=by
 funext i
 by_cases hi:i=j
 ·subst hi;simp [ofMid,h];right;omega
 ·rw [if_neg hi];simp only [ofMid];congr 2;by_cases h2:(i:Int)<j <;> simp [h2] <;> omega
theorem ofMid_end (l:List (Int × Int)) (k:Nat) (hk:k<l.length) (j:Int) (h1:max 0 (l.getD k (0,0)).1≤j) (h2:min (l.getD k (0,0)).2 64≤j) (h3:j≤max (max 0 (l.getD k (0,0)).1) (min (l.getD k (0,0)).2 64)) :
  ofMid l k (l.getD k (0,0)).1 j=inRuns (l.take (k+1)):=by
 funext i
 have:l.getD k (0,0)=l[k]:=by simp [hk]
 rw [List.take_succ_eq_append_getElem hk]
 simp only [ofMid,inRuns,List.any_append,List.any_cons,List.any_nil,Bool.or_false,inRun]
 rw [this] at h1 h2 h3 ⊢
 congr 1
 rw [Bool.eq_iff_iff];simp;omega
set_option maxRecDepth 100000 in
set_option maxHeartbeats 400000 in
theorem of_calls (w:World) (v:Value) (l:List (Int × Int)) (hv:RunsAt w v l) :
  Calls Tryz.prog 110 #[v] w fun e w'=>e=.returned (.agg (arrB (inRuns l)))∧Below w.heap.size w w':=by
 obtain ⟨a,cap,rfl,hlc,hcm,hel⟩:=hv
 unfold maxLen at hcm
 simp only [List.length_map] at hlc hel ⊢
 have Hel:=Lib.hid hel;clear hel
 have hL:=Holds.start w
 obtain ⟨n1,n2,n3,n4⟩:=tok4
 go_enter Tryz.func110,Tryz.ntmps110
 go_wp2_with (first|(with_reducible first|(clear hL n1;intro b1 w1 hL)|(clear hL n2;intro b2 w2 hL)|(clear hL n3;intro b3 w3 hL)|(clear hL;intro _ hL))|((with_reducible refine goJ rfl ?_);refine goW ?_))
 go_loopw [9] (fun s9 wr=>∃ k:Nat,k≤l.length∧s9=.int .i64 k∧Holds w wr [blk b2 (arrB (inRuns (l.take k))) 160,blk b1 (arrB fun _=>false) 160] [])
  (fun s9 wr=>l.length-(intOf s9).toNat)
 case atStart =>
  exact ⟨0,by omega,rfl,hL⟩
 case round =>
  clear hL
  obtain ⟨k,hk,rfl,hL⟩:=hrel
  by_cases hlt:k<l.length
  ·obtain ⟨b,o,rfl,hr⟩:=Hel.out k hlt
   have He:=Lib.hid (ofMid_end l k hlt)
   have Hs:=Lib.hid (ofMid_start l k (l.getD k (0,0)).1)
   have Ht:=Lib.hid (ofMid_step l k (l.getD k (0,0)).1)
   simp only [List.getElem_map,runC] at hr
   rw [show l[k]=l.getD k (0,0) by simp [hlt]] at hr
   generalize (l.getD k (0,0)).1=f at *
   generalize (l.getD k (0,0)).2=t at *
   go_wp2_with (first|(with_reducible first|(clear hL n1;intro b1 w1 hL)|(clear hL n2;intro b2 w2 hL)|(clear hL n3;intro b3 w3 hL)|(clear hL;intro _ hL))|((with_reducible refine goJ rfl ?_);refine goW ?_))
   go_loopw [6] (fun s6 wr=>∃ j:Nat,s6=.int .i64 j∧max 0 f≤(j:Int)∧(j:Int)≤max (max 0 f) (min t 64) ∧
     Holds w wr [blk b3 #[.int .i64 f,.int .i64 t] 124,blk b2 (arrB (ofMid l k f j)) 160,blk b1 (arrB fun _=>false) 160] [])
    (fun s6 wr=>(min t 64-intOf s6).toNat)
   case atStart =>
    rw [←Hs.out] at hL
    have e:(((max 0 f).toNat:Nat):Int)=max 0 f:=by omega
    exact ⟨(max 0 f).toNat,by rw [e],by omega,by omega,by rw [e];exact hL⟩
   case round =>
    clear hL
    obtain ⟨j,rfl,hj1,hj2,hL⟩:=hrel
    rcases (by omega:((j:Int)<t∧(j:Int)<64)∨¬(j:Int)<t∨¬(j:Int)<64) with ⟨hjt,hj64⟩|hjt|hjt
    ·have hj64':j<64:=by omega
     go_wp2_with (first|(with_reducible first|(clear hL n1;intro b1 w1 hL)|(clear hL n2;intro b2 w2 hL)|(clear hL n3;intro b3 w3 hL)|(clear hL;intro _ hL))|((with_reducible refine goJ rfl ?_);refine goW ?_))
     go_roundw
     case rel =>
      rw [Ht.out j hj1] at hL
      exact ⟨j+1,by go_num,by omega,by omega,hL⟩
     case measure=>simp [intOf];omega
    all_goals
     rw [He.out j hj1 (by omega) hj2] at hL
     clear hj1 hj2
     go_wp2_with (first|(with_reducible first|(clear hL n1;intro b1 w1 hL)|(clear hL n2;intro b2 w2 hL)|(clear hL n3;intro b3 w3 hL)|(clear hL;intro _ hL))|((with_reducible refine goJ rfl ?_);refine goW ?_))
     go_roundw
     case rel=>exact ⟨k+1,by omega,by go_num,hL.drop .here⟩
     case measure=>simp [intOf];omega
  ·have e:k=l.length:=by omega
   subst e
   rw [List.take_length] at hL
   go_wp2_with (first|(with_reducible first|(clear hL n1;intro b1 w1 hL)|(clear hL n2;intro b2 w2 hL)|(clear hL n3;intro b3 w3 hL)|(clear hL;intro _ hL))|((with_reducible refine goJ rfl ?_);refine goW ?_))
   exact bodyPost_ret (results_row inferInstance rfl _ hL b1 rfl _ _ (.there .here) (by rw [arrB_size])) rfl ⟨rfl,hL.below⟩
theorem runC_len (l:List (Int × Int)):∀ e∈l.map runC,e.length=2:=by
 intro e he;simp at he;obtain ⟨a,b,_,rfl⟩:=he;rfl
def RunsHead (p:Nat→Bool) (w:World) (b1:Nat) (i:Nat) (s3:Value) (wr:World):Prop :=
 Holds w wr [own w.heap.size 124 2 s3 (runsTo p i).length ((runsTo p i).map runC).flatten,blk b1 (arrB p) 160] []
theorem runsTo_len (p:Nat→Bool):∀ n,(runsTo p n).length≤n
 | 0=>by simp [runsTo,rruns]
 | n+1=>by
  have ih:=runsTo_len p n
  simp only [runsTo,List.length_reverse] at ih ⊢
  simp only [rruns]
  split
  ·split
   ·rename_i h;rw [h] at ih;split <;> simp at ih ⊢ <;> omega
   ·simp
  ·omega
set_option maxRecDepth 100000 in
set_option maxHeartbeats 400000 in
theorem runs_calls (w:World) (p:Nat→Bool) :
  Calls Tryz.prog 134 #[.agg (arrB p)] w (RunsOut (runsTo p 64) w):=by
 have hL:=Holds.start w
 obtain ⟨n1,n2,n3,n4⟩:=tok4
 go_enter Tryz.func134,Tryz.ntmps134
 go_wp2_with (first|(with_reducible first|(clear hL;intro _ _ _ hL;try dsimp only at hL)|(clear hL n1;intro b1 w1 hL)|(clear hL n2;intro b2 w2 hL))|((with_reducible refine wpA_lit rfl _ _ _ rfl ?_);first|refine litA1 hL ?_|refine litA2 hL ?_)|((with_reducible refine goJ rfl ?_);refine goW ?_))
 go_loopw [3,4] (fun s3 s4 wr=>∃ i:Nat,i≤65∧s4=.int .i64 i∧(i=0∨i=65∨p (i-1)=false)∧RunsHead p w b1 (min i 64) s3 wr)
  (fun s3 s4 wr=>(65-intOf s4).toNat)
 case atStart =>
  exact ⟨0,by omega,rfl,.inl rfl,hL.newOwn⟩
 case round =>
  clear hL
  obtain ⟨i,hi,rfl,h0,hL⟩:=hrel
  unfold RunsHead at hL
  by_cases hlt:i<64
  ·rw [show min i 64=i by omega] at hL
   have hlen:=runsTo_len p i
   cases hp:p i with
   | false =>
    have Hn:=Lib.hid (runsTo_off hp)
    go_wp2_with (first|(with_reducible first|(clear hL;intro _ _ _ hL;try dsimp only at hL)|(clear hL n1;intro b1 w1 hL)|(clear hL n2;intro b2 w2 hL))|((with_reducible refine wpA_lit rfl _ _ _ rfl ?_);first|refine litA1 hL ?_|refine litA2 hL ?_)|((with_reducible refine goJ rfl ?_);refine goW ?_))
    go_roundw
    case rel =>
     refine ⟨i+1,by omega,by go_num,.inr (.inr hp),?_⟩
     unfold RunsHead
     rw [show min (i+1) 64=i+1 by omega,Hn.out]
     exact hL
    case measure=>simp [intOf];omega
   | true =>
    have hi0:i≤64:=by omega
    go_wp2_with (first|(with_reducible first|(clear hL;intro _ _ _ hL;try dsimp only at hL)|(clear hL n1;intro b1 w1 hL)|(clear hL n2;intro b2 w2 hL))|((with_reducible refine wpA_lit rfl _ _ _ rfl ?_);first|refine litA1 hL ?_|refine litA2 hL ?_)|((with_reducible refine goJ rfl ?_);refine goW ?_))
    go_loopw [4] (fun s4 wr=>∃ e:Nat,s4=.int .i64 e∧i≤e∧e≤64∧(∀ j,i≤j→j<e→p j=true)∧RunsHead p w b1 i u3 wr)
     (fun s4 wr=>(64-intOf s4).toNat)
    case atStart=>exact ⟨i,rfl,Nat.le_refl _,hi0,fun j h1 h2=>by omega,hL⟩
    case round =>
     clear hL
     obtain ⟨e,rfl,he1,he2,hall,hL⟩:=hrel
     unfold RunsHead at hL
     have Hall:=Lib.hid hall;clear hall
     by_cases he:e<64
     ·have hc:=hL.cell (o:=e) (.there .here)
      rw [arrB_get _ he] at hc
      cases hpe:p e with
      | true =>
       rw [hpe] at hc
       go_wp2_with (first|(with_reducible first|(clear hL;intro _ _ _ hL;try dsimp only at hL)|(clear hL n1;intro b1 w1 hL)|(clear hL n2;intro b2 w2 hL))|((with_reducible refine wpA_lit rfl _ _ _ rfl ?_);first|refine litA1 hL ?_|refine litA2 hL ?_)|((with_reducible refine goJ rfl ?_);refine goW ?_))
       go_roundw
       case rel =>
        refine ⟨e+1,by go_num,by omega,by omega,fun j h1 h2=>?_,hL⟩
        by_cases hje:j=e
        ·subst hje;exact hpe
        ·exact Hall.out j h1 (by omega)
       case measure=>simp [intOf];omega
      | false =>
       rw [hpe] at hc
       have hie:i<e:=by
        rcases Nat.lt_or_eq_of_le he1 with h|h
        ·exact h
        ·subst h;rw [hp] at hpe;cases hpe
       have h0':i=0∨p (i-1)=false:=by
        rcases h0 with h|h|h
        ·exact .inl h
        ·omega
        ·exact .inr h
       have Hr:=Lib.hid (runsTo_run h0' hie Hall.out)
       have Hr2:=Lib.hid (runsTo_off hpe)
       clear h0 h0'
       go_wp2_with (first|(with_reducible first|(clear hL;intro _ _ _ hL;try dsimp only at hL)|(clear hL n1;intro b1 w1 hL)|(clear hL n2;intro b2 w2 hL))|((with_reducible refine wpA_lit rfl _ _ _ rfl ?_);first|refine litA1 hL ?_|refine litA2 hL ?_)|((with_reducible refine goJ rfl ?_);refine goW ?_))
       go_roundw
       case rel =>
        refine ⟨e+1,by omega,by go_num,.inr (.inr hpe),?_⟩
        unfold RunsHead
        rw [show min (e+1) 64=e+1 by omega,Hr2.out,Hr.out]
        simp only [List.length_append,List.map_append,List.flatten_append,List.length_cons,List.length_nil]
        exact hL
       case measure=>simp [intOf];omega
     ·have hie:i<e:=by omega
      have e64:e=64:=by omega
      have h0':i=0∨p (i-1)=false:=by
       rcases h0 with h|h|h
       ·exact .inl h
       ·omega
       ·exact .inr h
      have Hr:=Lib.hid (runsTo_run h0' hie Hall.out)
      have He:=Lib.hid e64
      clear h0 h0' e64
      go_wp2_with (first|(with_reducible first|(clear hL;intro _ _ _ hL;try dsimp only at hL)|(clear hL n1;intro b1 w1 hL)|(clear hL n2;intro b2 w2 hL))|((with_reducible refine wpA_lit rfl _ _ _ rfl ?_);first|refine litA1 hL ?_|refine litA2 hL ?_)|((with_reducible refine goJ rfl ?_);refine goW ?_))
      go_roundw
      case rel =>
       refine ⟨e+1,by omega,by go_num,.inr (.inl (by have:=He.out;omega)),?_⟩
       unfold RunsHead
       rw [show min (e+1) 64=e by have:=He.out;omega,Hr.out]
       simp only [List.length_append,List.map_append,List.flatten_append,List.length_cons,List.length_nil]
       exact hL
      case measure=>simp [intOf];omega
  ·have e:min i 64=64:=by omega
   rw [e] at hL
   clear e h0
   go_wp2_with (first|(with_reducible first|(clear hL;intro _ _ _ hL;try dsimp only at hL)|(clear hL n1;intro b1 w1 hL)|(clear hL n2;intro b2 w2 hL))|((with_reducible refine wpA_lit rfl _ _ _ rfl ?_);first|refine litA1 hL ?_|refine litA2 hL ?_)|((with_reducible refine goJ rfl ?_);refine goW ?_))
   go_ret
   exact hL.sliceOut .here (by simp) rfl (runC_len _)
set_option maxHeartbeats 400000 in
theorem meetF_calls (x y:Bool) (w:World):Calls Tryz.prog 114 #[.bool x,.bool y] w fun e w'=>e=.returned (.bool (x&&y))∧w=w':=by
  cases x <;>
    (go_enter Tryz.func114,Tryz.ntmps114
     go_wp2
     go_ret
     exact ⟨rfl,rfl⟩)
set_option maxRecDepth 100000 in
set_option maxHeartbeats 400000 in
theorem beside_calls (w:World) (p q:Nat→Bool) (F:Nat) (h:Bool→Bool→Bool) (hF:∀ x y w,Calls Tryz.prog F #[.bool x,.bool y] w fun e w'=>e=.returned (.bool (h x y))∧w=w')
  (hC:∀ x y w,(callFunc F #[.bool x,.bool y]).run Tryz.prog w=.ok (.enter F #[.bool x,.bool y]) w) :
  Calls Tryz.prog 133 #[.agg (arrB p),.agg (arrB q),.func (.func F) #[] #[]] w fun e w'=>e=.returned (.agg (arrB fun i=>h (p i) (q i)))∧Below w.heap.size w w':=by
 have hL:=Holds.start w
 have HF:=Lib.hid hF;clear hF
 obtain ⟨n1,n2,n3,n4,n5,n6⟩:=tok6
 go_enter Tryz.func133,Tryz.ntmps133
 go_wp2_with (first|(with_reducible first|(clear hL n1;intro b1 w1 hL)|(clear hL n2;intro b2 w2 hL)|(clear hL n3;intro b3 w3 hL)|(clear hL n4;intro b4 w4 hL)|(clear hL;intro _ hL))|((with_reducible refine goJ rfl ?_);refine goW ?_))
 go_loopw [9] (fun s9 wr=>∃ i:Nat,i≤64∧s9=.int .i64 i∧Holds w wr [blk b4 (arrB fun j=>decide (j<i)&&h (p j) (q j)) 130,blk b3 (arrB fun _=>false) 130,blk b2 (arrB q) 130,blk b1 (arrB p) 130] [])
  (fun s9 wr=>(64-intOf s9).toNat)
 case atStart=>exact ⟨0,by omega,rfl,by simpa using hL⟩
 case round =>
  clear hL
  obtain ⟨i,hi,rfl,hL⟩:=hrel
  by_cases hlt:i<64
  ·go_wp2_with (first|(with_reducible first|(clear hL n1;intro b1 w1 hL)|(clear hL n2;intro b2 w2 hL)|(clear hL n3;intro b3 w3 hL)|(clear hL n4;intro b4 w4 hL)|(clear hL n5;intro b5 w5 hL)|(clear hL n6;intro b6 w6 hL)|(clear hL;intro _ _ hL)|(clear hL;intro _ hL))|((with_reducible refine goJ rfl ?_);refine goW ?_))
   have c1:=hL.cell (o:=i) (.there (.there (.there .here)))
   rw [arrB_get _ hlt] at c1
   have c2:=hL.cell (o:=i) (.there (.there .here))
   rw [arrB_get _ hlt] at c2
   have c3:=hL.cell (o:=i) .here
   rw [arrB_get _ hlt] at c3
   have c4:=hL.soft (o:=i) .here
   have hne:=hL.apart
   simp [blk] at hne
   obtain ⟨⟨_,f42,f41⟩,_⟩:=hne
   have e42:¬b4=b2:=fun e=>f42 e.symm
   have e41:¬b4=b1:=fun e=>f41 e.symm
   have ha:=(hL.setCell (o:=i) (v:=.bool (h (p i) (q i))) .here).drew
   rw [arrB_set _ _ hlt] at ha
   clear hL
   go_region_held3 (fun w'=>w'.cell? ⟨b1,i,none⟩=some (.bool (p i))∧w'.cell? ⟨b2,i,none⟩=some (.bool (q i))) (first|go_keep|(refine ⟨?_,?_⟩ <;> (rw [World.cell?_drew,World.cell?_setCell_other _ _ _ _ (by simp [e41,e42])];assumption)))
    ((refine (HF.out _ _ _).mono ?_;rintro e w' ⟨rfl,rfl⟩))
   go_wp2
   go_roundw
   case rel =>
    refine ⟨i+1,by omega,by go_num,?_⟩
    have e:arrB (fun j=>if j=i then h (p i) (q i) else decide (j<i)&&h (p j) (q j))=arrB (fun j=>decide (j<i+1)&&h (p j) (q j)):=by
     refine arrB_congr fun j _=>?_
     by_cases hj:j=i
     ·subst hj;simp
     ·have:j<i+1 ↔ j<i:=by omega
      simp [hj,this]
    rw [←e]
    exact ha
   case measure=>simp [intOf];omega
  ·have e:arrB (fun j=>decide (j<i)&&h (p j) (q j))=arrB (fun j=>h (p j) (q j)):=by
    refine arrB_congr fun j hj=>?_
    have:j<i:=by omega
    simp [this]
   rw [e] at hL
   clear e
   go_wp2_with (first|(with_reducible first|(clear hL n1;intro b1 w1 hL)|(clear hL n2;intro b2 w2 hL)|(clear hL n3;intro b3 w3 hL)|(clear hL n4;intro b4 w4 hL)|(clear hL;intro _ hL))|((with_reducible refine goJ rfl ?_);refine goW ?_))
   exact bodyPost_ret (results_row inferInstance rfl _ hL b3 rfl _ _ (.there .here) (by rw [arrB_size])) rfl ⟨rfl,hL.below⟩
theorem RunsAt.hold {w0 w:World} {M:List Res} {Φ:List (World→Prop)} {v:Value} {l:List (Int × Int)} (h:RunsAt w0 v l) (hL:Holds w0 w M Φ):RunsAt w v l:=SliceAt.below h hL.below
theorem Holds.out0 {w0 w:World} {M:List Res} {Φ:List (World→Prop)} {k:Nat} {v:Value} {els:List (List Value)} (h:Holds w0 w M ((fun w=>SliceAt w k v els)::Φ)):SliceOut k els w0 (.returned v) w :=
 ⟨v,rfl,h.below,h.fresh⟩
def cutI (a:Int):Int:=max 0 (min a 64)
theorem cutI_le (a:Int):0≤cutI a∧cutI a≤64:=by unfold cutI;omega
set_option maxHeartbeats 400000 in
theorem cut_calls (a:Int) (w:World) :
  Calls Tryz.prog 147 #[.int .i64 a] w fun e w'=>e=.returned (.int .i64 (cutI a))∧w=w':=by
 have hL:=Holds.start w
 go_enter Tryz.func147,Tryz.ntmps147
 go_wp2_with ((with_reducible refine goJ rfl ?_);refine goW ?_)
 go_ret
 exact ⟨by unfold cutI;rfl,rfl⟩
set_option maxRecDepth 100000 in
set_option maxHeartbeats 400000 in
theorem spanBoth_calls (w:World) (a b:Value) (la lb:List (Int × Int)) (ha:RunsAt w a la) (hb:RunsAt w b lb) (F:Nat) (h:Bool→Bool→Bool) (hF:∀ x y w,Calls Tryz.prog F #[.bool x,.bool y] w fun e w'=>e=.returned (.bool (h x y))∧w=w')
  (hC:∀ x y w,(callFunc F #[.bool x,.bool y]).run Tryz.prog w=.ok (.enter F #[.bool x,.bool y]) w) :
  Calls Tryz.prog 113 #[a,b,.func (.func F) #[] #[]] w (RunsOut (runsTo (fun i=>h (inRuns la i) (inRuns lb i)) 64) w):=by
 have hL:=Holds.start w
 have Ha:=Lib.hid ha;clear ha
 have Hb:=Lib.hid hb;clear hb
 have HF:=Lib.hid hF;clear hF
 have HC:=Lib.hid hC;clear hC
 go_enter Tryz.func113,Tryz.ntmps113
 go_wp2_with (first|(go_at_call 110;(first|(with_reducible refine (of_calls _ a la (Ha.out.hold hL)).mono ?_)|(with_reducible refine (of_calls _ b lb (Hb.out.hold hL)).mono ?_));rintro e _ ⟨rfl,hb⟩;replace hL:=hL.call hb;clear hb)|(go_at_call 133;(with_reducible refine (beside_calls _ _ _ F h HF.out HC.out).mono ?_);rintro e _ ⟨rfl,hb⟩;replace hL:=hL.call hb;clear hb)|(go_at_call 134;(with_reducible refine (runs_calls _ _).mono ?_);rintro e _ ⟨v,rfl,hb,hf⟩;replace hL:=hL.callF hb hf;clear hb hf))
 go_ret
 exact hL.out0
theorem spanMeet_calls (w:World) (a b:Value) (la lb:List (Int × Int)) (ha:RunsAt w a la) (hb:RunsAt w b lb) :
  Calls Tryz.prog 71 #[a,b] w (RunsOut (runsTo (fun i=>inRuns la i&&inRuns lb i) 64) w):=by
 have hL:=Holds.start w
 have Ha:=Lib.hid ha;clear ha
 have Hb:=Lib.hid hb;clear hb
 go_enter Tryz.func71,Tryz.ntmps71
 go_wp2_with (go_at_call 113;(with_reducible refine (spanBoth_calls _ _ _ la lb (Ha.out.hold hL) (Hb.out.hold hL) _ (fun x y=>x&&y) meetF_calls (fun _ _ _=>by kernel_rfl)).mono ?_);rintro e _ ⟨v,rfl,hb,hf⟩;replace hL:=hL.callF hb hf;clear hb hf)
 go_ret
 exact hL.out0
def shiftP (l:List (Int × Int)) (by_ w:Int) (k:Nat):Bool:=decide ((k:Int)<cutI w)&&(decide (0≤(k:Int)-by_)&&inRuns l ((k:Int)-by_).toNat)
def shiftMid (l:List (Int × Int)) (by_ w:Int) (i:Nat) (k:Nat):Bool:=decide ((k:Int)-by_<(i:Int))&&shiftP l by_ w k
theorem inRuns_64 (l:List (Int × Int)) {i:Nat} (h:64≤i):inRuns l i=false:=by
 simp only [inRuns,List.any_eq_false]
 intro r _
 simp [inRun];omega
theorem shiftMid_0 (l:List (Int × Int)) (by_ w:Int):arrB (shiftMid l by_ w 0)=arrB fun _=>false:=by
 refine arrB_congr fun k _=>?_
 simp [shiftMid,shiftP];omega
theorem shiftMid_64 (l:List (Int × Int)) (by_ w:Int):arrB (shiftMid l by_ w 64)=arrB (shiftP l by_ w):=by
 refine arrB_congr fun k _=>?_
 by_cases h:(k:Int)-by_<64
 ·simp [shiftMid,h]
 ·have:shiftP l by_ w k=false:=by
   simp [shiftP,inRuns_64 l (show 64≤((k:Int)-by_).toNat by omega)]
  simp [shiftMid,this]
theorem shiftMid_far (l:List (Int × Int)) (by_ w:Int) (h:¬-64<by_∨¬by_<64):arrB (shiftP l by_ w)=arrB fun _=>false:=by
 refine arrB_congr fun k hk=>?_
 rcases h with h|h
 ·simp [shiftP,inRuns_64 l (show 64≤((k:Int)-by_).toNat by omega)]
 ·simp [shiftP];omega
theorem shiftMid_on (l:List (Int × Int)) (by_ w:Int) (i T:Nat) (hT:(i:Int)+by_=T) (hp:inRuns l i=true) (hc:(T:Int)<cutI w):arrB (fun k=>if k=T then true else shiftMid l by_ w i k)=arrB (shiftMid l by_ w (i+1)):=by
 refine arrB_congr fun k _=>?_
 by_cases hk:k=T
 ·subst hk
  have e:(k:Int)-by_=i:=by omega
  simp only [shiftMid,shiftP,e,if_true,Int.toNat_natCast,hp]
  simp [hc];omega
 ·rw [if_neg hk]
  have:(k:Int)-by_<((i+1:Nat):Int) ↔ (k:Int)-by_<(i:Int):=by omega
  simp only [shiftMid,this]
theorem shiftMid_off (l:List (Int × Int)) (by_ w:Int) (i:Nat) (h:inRuns l i=false∨(i:Int)+by_<0∨¬(i:Int)+by_<cutI w):arrB (shiftMid l by_ w i)=arrB (shiftMid l by_ w (i+1)):=by
 refine arrB_congr fun k _=>?_
 by_cases hk:(k:Int)-by_=i
 ·have e:((k:Int)-by_).toNat=i:=by omega
  have:shiftP l by_ w k=false:=by
   simp only [shiftP,e]
   rcases h with h|h|h
   ·simp [h]
   ·simp;omega
   ·simp;omega
  simp [shiftMid,this]
 ·have:(k:Int)-by_<((i+1:Nat):Int) ↔ (k:Int)-by_<(i:Int):=by omega
  simp only [shiftMid,this]
set_option maxRecDepth 100000 in
set_option maxHeartbeats 1000000 in
theorem spanShift_calls (w:World) (a:Value) (la:List (Int × Int)) (ha:RunsAt w a la) (by_ W:Int) :
  Calls Tryz.prog 137 #[a,.int .i64 by_,.int .i64 W] w (RunsOut (runsTo (shiftP la by_ W) 64) w):=by
 have hL:=Holds.start w
 have Ha:=Lib.hid ha;clear ha
 have Hend:arrB (shiftMid la by_ W 64)=arrB (shiftP la by_ W):=shiftMid_64 la by_ W
 have Hend:=Lib.hid Hend
 by_cases hby : -64<by_∧by_<64
 ·obtain ⟨hb1,hb2⟩:=hby
  have H0:=Lib.hid (shiftMid_0 la by_ W)
  obtain ⟨n1,n2,n3,n4⟩:=tok4
  go_enter Tryz.func137,Tryz.ntmps137
  go_wp2_with (first|(go_at_call 110;(with_reducible refine (of_calls _ a la (Ha.out.hold hL)).mono ?_);rintro e _ ⟨rfl,hb⟩;replace hL:=hL.call hb;clear hb)|(with_reducible first|(clear hL n1;intro b1 w1 hL)|(clear hL n2;intro b2 w2 hL)|(clear hL;intro _ hL))|((with_reducible refine goJ rfl ?_);refine goW ?_))
  rw [←H0.out] at hL
  go_loopw [21] (fun s21 wr=>∃ i:Nat,i≤64∧s21=.int .i64 i∧Holds w wr [blk b2 (arrB (shiftMid la by_ W i)) 160,blk b1 (arrB (inRuns la)) 160] [])
   (fun s21 wr=>(64-intOf s21).toNat)
  case atStart=>exact ⟨0,by omega,rfl,hL⟩
  case round =>
   clear hL
   obtain ⟨i,hi,rfl,hL⟩:=hrel
   by_cases hlt:i<64
   ·cases hp:inRuns la i with
    | false =>
     have Ho:=Lib.hid (shiftMid_off la by_ W i (.inl hp))
     go_wp2_with (first|(with_reducible first|(clear hL n1;intro b1 w1 hL)|(clear hL n2;intro b2 w2 hL)|(clear hL n3;intro b3 w3 hL)|(clear hL;intro _ hL))|((with_reducible refine goJ rfl ?_);refine goW ?_))
     go_roundw
     case rel=>exact ⟨i+1,by omega,by go_num,by rw [←Ho.out];exact hL⟩
     case measure=>simp [intOf];omega
    | true =>
     by_cases h0:0≤(i:Int)+by_
     ·obtain ⟨T,hT⟩:=Int.eq_ofNat_of_zero_le h0
      by_cases hc:(T:Int)<cutI W
      ·have Ho:=Lib.hid (shiftMid_on la by_ W i T hT hp hc)
       have hcl:=cutI_le W
       have hT64:T<64:=by omega
       go_wp2_with (first|(go_at_call 147;(with_reducible refine (cut_calls _ _).mono ?_);rintro e _ ⟨rfl,rfl⟩)|(with_reducible (clear hL;intro _ hL))|((with_reducible refine goJ rfl ?_);refine goW ?_))
       go_roundw
       case rel=>exact ⟨i+1,by omega,by go_num,by rw [←Ho.out];exact hL⟩
       case measure=>simp [intOf];omega
      ·have Ho:=Lib.hid (shiftMid_off la by_ W i (.inr (.inr (by rw [hT];exact hc))))
       have hcl:=cutI_le W
       go_wp2_with (first|(go_at_call 147;(with_reducible refine (cut_calls _ _).mono ?_);rintro e _ ⟨rfl,rfl⟩)|(with_reducible (clear hL;intro _ hL))|((with_reducible refine goJ rfl ?_);refine goW ?_))
       go_roundw
       case rel=>exact ⟨i+1,by omega,by go_num,by rw [←Ho.out];exact hL⟩
       case measure=>simp [intOf];omega
     ·have Ho:=Lib.hid (shiftMid_off la by_ W i (.inr (.inl (by omega))))
      go_wp2_with (first|(with_reducible first|(clear hL n1;intro b1 w1 hL)|(clear hL n2;intro b2 w2 hL)|(clear hL n3;intro b3 w3 hL)|(clear hL;intro _ hL))|((with_reducible refine goJ rfl ?_);refine goW ?_))
      go_roundw
      case rel=>exact ⟨i+1,by omega,by go_num,by rw [←Ho.out];exact hL⟩
      case measure=>simp [intOf];omega
   ·have e:i=64:=by omega
    rw [e,Hend.out] at hL
    clear e
    go_wp2_with (first|(go_at_call 134;(with_reducible refine (runs_calls _ _).mono ?_);rintro e _ ⟨v,rfl,hb,hf⟩;replace hL:=hL.callF hb hf;clear hb hf)|((with_reducible refine goJ rfl ?_);refine goW ?_))
    go_ret
    exact hL.out0
 ·have Hf:=Lib.hid (shiftMid_far la by_ W (by omega))
  rcases (by omega:¬-64<by_∨¬by_<64 ∧ -64<by_) with hb1|⟨hb1,hb2⟩
  all_goals
   obtain ⟨n1,n2,n3,n4⟩:=tok4
   go_enter Tryz.func137,Tryz.ntmps137
   go_wp2_with (first|(go_at_call 110;(with_reducible refine (of_calls _ a la (Ha.out.hold hL)).mono ?_);rintro e _ ⟨rfl,hb⟩;replace hL:=hL.call hb;clear hb)|(go_at_call 134;rw [←Hf.out];(with_reducible refine (runs_calls _ _).mono ?_);rintro e _ ⟨v,rfl,hb,hf⟩;replace hL:=hL.callF hb hf;clear hb hf)|(with_reducible first|(clear hL n1;intro b1 w1 hL)|(clear hL n2;intro b2 w2 hL)|(clear hL;intro _ hL))|((with_reducible refine goJ rfl ?_);refine goW ?_))
   go_ret
   exact hL.out0
theorem spanNorm_calls (w:World) (a:Value) (la:List (Int × Int)) (ha:RunsAt w a la) (W:Int) :
  Calls Tryz.prog 132 #[a,.int .i64 W] w (RunsOut (runsTo (shiftP la 0 W) 64) w):=by
 have hL:=Holds.start w
 have Ha:=Lib.hid ha;clear ha
 go_enter Tryz.func132,Tryz.ntmps132
 go_wp2_with (go_at_call 137;(with_reducible refine (spanShift_calls _ a la (Ha.out.hold hL) _ _).mono ?_);rintro e _ ⟨v,rfl,hb,hf⟩;replace hL:=hL.callF hb hf;clear hb hf)
 go_ret
 exact hL.out0
theorem blk_runs {w:World} {w0:World} {M:List Res} {Φ:List (World→Prop)} {b:Nat} {f t:Int} {T:TypeId} (h:Holds w0 w M Φ) (k:At M (blk b #[.int .i64 f,.int .i64 t] T)):RunsAt w (.slice (some ⟨b,0,none⟩) 1 1) [(f,t)]:=by
 refine ⟨_,1,rfl,Nat.le_refl _,by unfold maxLen;omega,fun i hi=>⟨b,0,rfl,fun j v hj=>?_⟩⟩
 have:i=0:=by simpa using hi
 subst this
 rw [h.cell k]
 simp [runC] at hj ⊢
 exact hj
set_option maxRecDepth 100000 in
set_option maxHeartbeats 1000000 in
theorem spanMay_calls (w:World) (a:Value) (l:List (Int × Int)) (ha:RunsAt w a l) (W:Int) :
    Calls Tryz.prog 109 #[a,.int .i64 W] w fun e w'=>e=.returned (.bool (mayRuns l W))∧Below w.heap.size w w':=by
  obtain ⟨a,cap,rfl,hlc,hcm,hel⟩:=ha
  unfold maxLen at hcm
  simp only [List.length_map] at hlc hel ⊢
  have Hel:=Lib.hid hel;clear hel
  have hL:=Holds.start w
  rcases (by omega:(0≤W∧W≤64)∨W<0∨64<W) with ⟨h1,h2⟩|h1|h1
  · have Hr:=Lib.hid (show mayRuns l W=mayFrom (-1) W l by simp [mayRuns,h1,h2])
    obtain ⟨n1,n2,n3,n4⟩:=tok4
    go_enter Tryz.func109,Tryz.ntmps109
    go_wp2_with (first|(with_reducible first|(clear hL n1;intro b1 w1 hL)|(clear hL n2;intro b2 w2 hL)|(clear hL n3;intro b3 w3 hL)|(clear hL;intro _ hL))|((with_reducible refine goJ rfl ?_);refine goW ?_))
    go_loopw [5,16] (fun s5 s16 wr=>∃ k:Nat,k≤l.length∧s16=.int .i64 k∧s5=.int .i64 (lastTo (-1) (l.take k))∧mayFrom (-1) W (l.take k)=true∧Holds w wr [] [])
      (fun s5 s16 wr=>l.length-(intOf s16).toNat)
    case atStart=>exact ⟨0,by omega,rfl,rfl,rfl,hL⟩
    case round =>
      clear hL
      obtain ⟨k,hk,rfl,rfl,hm,hL⟩:=hrel
      by_cases hlt:k<l.length
      · obtain ⟨b,o,rfl,hr⟩:=Hel.out k hlt
        have Ht:l.take (k+1)=l.take k++[l.getD k (0,0)]:=by rw [List.take_succ_eq_append_getElem hlt];simp [hlt]
        have Hl:=Lib.hid (show lastTo (-1) (l.take (k+1))=(l.getD k (0,0)).2 by rw [Ht,lastTo_append])
        have Hm:=Lib.hid (show mayFrom (-1) W (l.take (k+1))=(decide (lastTo (-1) (l.take k)<(l.getD k (0,0)).1)&&(decide ((l.getD k (0,0)).1<(l.getD k (0,0)).2)&&decide ((l.getD k (0,0)).2≤W))) by
          rw [Ht,mayFrom_append,hm];simp [mayFrom])
        have Hall:=Lib.hid (show mayFrom (-1) W (l.take (k+1))=false→mayFrom (-1) W l=false by
          intro h
          rw [←List.take_append_drop (k+1) l,mayFrom_append,h];rfl)
        simp only [List.getElem_map,runC] at hr
        rw [show l[k]=l.getD k (0,0) by simp [hlt]] at hr
        generalize (l.getD k (0,0)).1=f at *
        generalize (l.getD k (0,0)).2=t at *
        generalize lastTo (-1) (l.take k)=z at *
        clear Ht hm
        rcases (by omega:(z<f∧f<t∧t≤W)∨f≤z∨(z<f∧t≤f)∨(z<f∧f<t∧W<t)) with ⟨g1,g2,g3⟩|g1|⟨g1,g2⟩|⟨g1,g2,g3⟩
        · have Hm':=Lib.hid (show mayFrom (-1) W (l.take (k+1))=true by rw [Hm.out];simp [g1,g2,g3])
          have d1:decide (f≤z)=false:=by simp;omega
          have d2:decide (t≤f)=false:=by simp;omega
          have d3:decide (W<t)=false:=by simp;omega
          go_wp2_with (first|(with_reducible first|(clear hL n1;intro b1 w1 hL)|(clear hL n2;intro b2 w2 hL)|(clear hL n3;intro b3 w3 hL)|(clear hL;intro _ hL))|((with_reducible refine goJ rfl ?_);refine goW ?_))
          go_roundw
          case rel=>exact ⟨k+1,by omega,by go_num,by rw [Hl.out],Hm'.out,hL.drop .here⟩
          case measure=>simp [intOf];omega
        all_goals
          have Hm':=Lib.hid (Hall.out (by rw [Hm.out];simp;omega))
          first
            | have d1:decide (f≤z)=true:=by simp;omega
            | (have d1:decide (f≤z)=false:=by simp;omega
               first
                 | have d2:decide (t≤f)=true:=by simp;omega
                 | (have d2:decide (t≤f)=false:=by simp;omega
                    have d3:decide (W<t)=true:=by simp;omega))
          go_wp2_with (first|(with_reducible first|(clear hL n1;intro b1 w1 hL)|(clear hL n2;intro b2 w2 hL)|(clear hL n3;intro b3 w3 hL)|(clear hL;intro _ hL))|((with_reducible refine goJ rfl ?_);refine goW ?_))
          go_ret
          exact ⟨ret_bool (by rw [Hr.out,Hm'.out]),hL.below⟩
      · have e:k=l.length:=by omega
        subst e
        rw [List.take_length] at hm
        have Hm:=Lib.hid hm;clear hm
        go_wp2_with (first|(with_reducible first|(clear hL n1;intro b1 w1 hL)|(clear hL n2;intro b2 w2 hL)|(clear hL n3;intro b3 w3 hL)|(clear hL;intro _ hL))|((with_reducible refine goJ rfl ?_);refine goW ?_))
        go_ret
        exact ⟨ret_bool (by rw [Hr.out,Hm.out]),hL.below⟩
  all_goals
    have Hr:=Lib.hid (show mayRuns l W=false by simp [mayRuns];omega)
    go_enter Tryz.func109,Tryz.ntmps109
    go_wp2_with (first|(with_reducible first|(clear hL n1;intro b1 w1 hL)|(clear hL n2;intro b2 w2 hL)|(clear hL n3;intro b3 w3 hL)|(clear hL;intro _ hL))|((with_reducible refine goJ rfl ?_);refine goW ?_))
    go_ret
    exact ⟨ret_bool (by rw [Hr.out]),hL.below⟩
end Go.Proofs.YtmnoeoecjfhhbaaGreat
