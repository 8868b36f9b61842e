/- Runs, rows and regions. -/
import Derived.Test.YtmnoeoecjfhhbaaGreatSpB
import Derived.Test.YtmnoeoecjfhhbaaGreatArmM
import Derived.Deep.QuietTactic
import Derived.BigQuiet
import Derived.Test.YtmnoeoecjfhhbaaGreatMkdM
namespace Go.Proofs.YtmnoeoecjfhhbaaGreat
open Go.RowKit
theorem SliceAt.shape {w:World} {k:Nat} {v:Value} {els:List (List Value)} (h:SliceAt w k v els):∃ a n c,v=.slice a n c:=by
 obtain ⟨a,c,h,_⟩:=h;exact ⟨a,_,c,h⟩
structure Reg where
 W:Int
 H:Int
 rows:List (List (Int × Int))
def RowsAt (w:World) (s:Value) (rows:List (List (Int × Int))):Prop :=
 ∃ vs:List Value,vs.length=rows.length∧SliceAt w 1 s (vs.map fun v=>[v])∧∀ i v,vs[i]?=some v→RunsAt w v (rows.getD i [])
theorem RowsAt.below {w w':World} {s:Value} {rows:List (List (Int × Int))} (h:RowsAt w s rows) (hb:Below w.heap.size w w'):RowsAt w' s rows:=by
 obtain ⟨vs,h1,h2,h3⟩:=h
 exact ⟨vs,h1,h2.below hb,fun i v hv=>SliceAt.below (h3 i v hv) hb⟩
theorem rows_of {w:World} {b h:Nat} {cs:Array Value} {T:TypeId} {F:Nat→List (Int × Int)} (hb:w.heap[b]?=some (.cells cs T (0,0))) (hs:cs.size=h) (hm:h≤maxLen) (hv:∀ i,i<h→∃ v,cs[i]?=some v∧RunsAt w v (F i)) :
  RowsAt w (.slice (some ⟨b,0,none⟩) h h) ((List.range h).map F):=by
 subst hs
 refine ⟨cs.toList,by simp,⟨_,cs.size,by simp,by simp,hm,fun i hi=>⟨b,0,rfl,fun j v hj=>?_⟩⟩,fun i v hi=>?_⟩
 ·simp only [List.getElem_map] at hj
  have hj0:j=0:=by
   rcases j with _|j
   ·rfl
   ·simp at hj
  subst hj0
  rw [cell_of_row w b _ cs T (0,0) hb]
  simp at hj hi
  simp
  rw [Array.getElem?_eq_getElem hi,hj]
 ·obtain ⟨v',h1,h2⟩:=hv i (by have:=(List.getElem?_eq_some_iff.1 hi).1;simpa using this)
  have hi':cs[i]?=some v:=by simpa using hi
  rw [h1] at hi'
  cases hi'
  have hlt:i<cs.size:=(Array.getElem?_eq_some_iff.1 h1).1
  have e:((List.range cs.size).map F).getD i []=F i:=by simp [hlt]
  rw [e]
  exact h2
def RegAt (w:World) (v:Value) (R:Reg):Prop:=∃ s,v=.agg #[.int .i64 R.W,.int .i64 R.H,s]∧RowsAt w s R.rows
theorem RegAt.below {w w':World} {v:Value} {R:Reg} (h:RegAt w v R) (hb:Below w.heap.size w w'):RegAt w' v R:=by
 obtain ⟨s,h1,h2⟩:=h
 exact ⟨s,h1,h2.below hb⟩
def RegOut (R:Reg) (err:Int) (w:World) (e:Ending) (w':World):Prop :=
 ∃ v,e=.returned (.tuple #[v,.int .i64 err])∧Below w.heap.size w w'∧Fresh w w' (fun w=>RegAt w v R)
def RunsRet (l:List (Int × Int)) (w:World) (e:Ending) (w':World):Prop :=
 ∃ v,e=.returned v∧Below w.heap.size w w'∧RunsAt w' v l
def noReg:Reg:=⟨0,0,[]⟩
theorem noReg_at (w:World):RegAt w (.agg #[.int .i64 0,.int .i64 0,.slice none 0 0]) noReg :=
 ⟨_,rfl,[],rfl,⟨none,0,rfl,Nat.le_refl _,by unfold maxLen;omega,fun i hi=>by simp at hi⟩,fun i v h=>by simp at h⟩
theorem RowsAt.parts {w:World} {s:Value} {rows:List (List (Int × Int))} (h:RowsAt w s rows) :
  ∃ a cap,s=.slice a rows.length cap∧rows.length≤cap∧cap≤maxLen∧∀ i,i<rows.length→∃ b o,a=some ⟨b,o,none⟩∧∃ va vn vc,w.cell? ⟨b,o+i,none⟩=some (.slice va vn vc)∧RunsAt w (.slice va vn vc) (rows.getD i []):=by
 obtain ⟨vs,h1,⟨a,cap,h2,h3,h4,h5⟩,h6⟩:=h
 simp only [List.length_map] at h2 h3 h5
 rw [h1] at h2 h3
 refine ⟨a,cap,h2,h3,h4,fun i hi=>?_⟩
 have hi':i<vs.length:=by omega
 obtain ⟨b,o,e,hr⟩:=h5 i hi'
 have h7:=h6 i vs[i] (by simp [hi'])
 obtain ⟨va,vn,vc,ev⟩:=SliceAt.shape h7
 refine ⟨b,o,e,va,vn,vc,?_,by rw [←ev];exact h7⟩
 have:=hr 0 vs[i] (by simp)
 simp only [Nat.mul_one,Nat.add_zero] at this
 rw [this,ev]
theorem RegAt.hold {w0 w:World} {M:List Res} {Φ:List (World→Prop)} {v:Value} {R:Reg} (h:RegAt w0 v R) (hL:Holds w0 w M Φ):RegAt w v R:=h.below hL.below
theorem RegAt.shape {w:World} {v:Value} {R:Reg} (h:RegAt w v R):∃ sa sn sc,v=.agg #[.int .i64 R.W,.int .i64 R.H,.slice sa sn sc]∧RowsAt w (.slice sa sn sc) R.rows:=by
 obtain ⟨s,h1,h2⟩:=h
 obtain ⟨a,cap,rfl,_⟩:=h2.parts
 exact ⟨a,_,cap,h1,h2⟩
set_option maxHeartbeats 400000 in
theorem rcut_calls (a:Int) (w:World) :
  Calls Tryz.prog 126 #[.int .i64 a] w fun e w'=>e=.returned (.int .i64 (cutI a))∧w=w':=by
 have hL:=Holds.start w
 go_enter Tryz.func126,Tryz.ntmps126
 go_wp2_with ((with_reducible refine goJ rfl ?_);refine goW ?_)
 go_ret
 exact ⟨by show Ending.returned (.int .i64 (min (max a 0) 64))=_;rw [show min (max a 0) 64=cutI a by unfold cutI;omega],rfl⟩
theorem runC_flat_len (l:List (Int × Int)):((l.map runC).flatten).length=l.length*2:=by
 induction l with
 | nil=>rfl
 | cons a l ih=>simp [runC] at ih ⊢;omega
theorem runsTo_grow {p:Nat→Bool} {n:Nat} (h:p n=true) (h0:0<n) (h1:p (n-1)=true) :
  (runsTo p (n+1)).length=(runsTo p n).length∧0<(runsTo p n).length∧((runsTo p n).map runC).flatten.set (((runsTo p n).length-1)*2+1) (.int .i64 ((n:Int)+1))=((runsTo p (n+1)).map runC).flatten:=by
 obtain ⟨f,r,e1,e2⟩:=rruns_more h h0 h1
 have r1:runsTo p n=r.reverse++[(f,(n:Int))]:=by rw [runsTo,e1,List.reverse_cons]
 have r2:runsTo p (n+1)=r.reverse++[(f,(n:Int)+1)]:=by rw [runsTo,e2,List.reverse_cons]
 rw [r1,r2]
 refine ⟨by simp,by simp,?_⟩
 simp only [List.map_append,List.flatten_append,List.length_append,List.length_cons,List.length_nil,Nat.add_sub_cancel]
 rw [List.set_append_right (h:=by rw [runC_flat_len];omega),runC_flat_len]
 simp [runC]
def ARuns (p:Nat→Bool) (w:World) (b:Nat) (i:Nat) (s:Value) (wr:World):Prop :=
 Holds w wr [own w.heap.size 124 2 s (runsTo p i).length ((runsTo p i).map runC).flatten,blk b (arrB p) 131] []
set_option maxRecDepth 100000 in
set_option maxHeartbeats 1000000 in
theorem refRuns_calls (w:World) (p:Nat→Bool) (W:Int) :
  Calls Tryz.prog 83 #[.agg (arrB p),.int .i64 W] w (RunsOut (runsTo p (cutI W).toNat) w):=by
 have hL:=Holds.start w
 have hcl:=cutI_le W
 obtain ⟨c,hc⟩:=Int.eq_ofNat_of_zero_le hcl.1
 have Hc:=Lib.hid hc
 have Hcn:=Lib.hid (show (cutI W).toNat=c by omega)
 have hc64:c≤64:=by omega
 clear hcl hc
 obtain ⟨n1,n2,n3,n4⟩:=tok4
 go_enter Tryz.func83,Tryz.ntmps83
 go_wp2_with (first|(with_reducible (clear hL n1;intro b1 w1 hL))|((with_reducible refine wpA_lit rfl _ _ _ rfl ?_);first|refine litA1 hL ?_|refine litA2 hL ?_)|((with_reducible refine goJ rfl ?_);refine goW ?_))
 go_loopw [5,6] (fun s5 s6 wr=>∃ i:Nat,i≤c∧s6=.int .i64 i∧ARuns p w b1 i s5 wr)
  (fun s5 s6 wr=>(64-intOf s6).toNat)
 case atStart=>exact ⟨0,by omega,rfl,hL.newOwn⟩
 case round =>
  clear hL
  obtain ⟨i,hi,rfl,hL⟩:=hrel
  unfold ARuns at hL
  have hlen:=runsTo_len p i
  by_cases hlt:i<c
  ·cases hp:p i with
   | false =>
    have Hn:=Lib.hid (runsTo_off hp)
    go_wp2_with (first|(go_at_call 126;(with_reducible refine (rcut_calls _ _).mono ?_);rintro e _ ⟨rfl,rfl⟩;rw [Hc.out])|(with_reducible first|(clear hL;intro _ _ _ hL;try dsimp only at hL)|(clear hL n2;intro b2 w2 hL)|(clear hL;intro _ hL))|((with_reducible refine wpA_lit rfl _ _ _ rfl ?_);first|refine litA1 hL ?_|refine litA2 hL ?_)|((with_reducible refine goJ rfl ?_);refine goW ?_))
    go_roundw
    case rel=>exact ⟨i+1,by omega,by go_num,by unfold ARuns;rw [Hn.out];exact hL⟩
    case measure=>simp [intOf];omega
   | true =>
    by_cases h0:0<i
    ·have c1:=hL.cell (o:=i-1) (.there .here)
     rw [arrB_get _ (by omega)] at c1
     cases hp1:p (i-1) with
     | true =>
      rw [hp1] at c1
      obtain ⟨q1,q2,q3⟩:=runsTo_grow hp h0 hp1
      obtain ⟨g,cap,rfl⟩:=own_shape hL .here q2
      have Hq1:=Lib.hid q1;clear q1
      have Hq3:=Lib.hid q3;clear q3
      have hxl:=runC_flat_len (runsTo p i)
      go_wp2_with (first|(go_at_call 126;(with_reducible refine (rcut_calls _ _).mono ?_);rintro e _ ⟨rfl,rfl⟩;rw [Hc.out])|(with_reducible first|(clear hL;intro _ _ _ hL;try dsimp only at hL)|(clear hL n2;intro b2 w2 hL)|(clear hL;intro _ hL))|((with_reducible refine wpA_lit rfl _ _ _ rfl ?_);first|refine litA1 hL ?_|refine litA2 hL ?_)|((with_reducible refine goJ rfl ?_);refine goW ?_))
      go_roundw
      case rel=>exact ⟨i+1,by omega,by go_num,by unfold ARuns;rw [Hq1.out,←Hq3.out];exact hL⟩
      case measure=>simp [intOf];omega
     | false =>
      rw [hp1] at c1
      have Hn:=Lib.hid (runsTo_run (e:=i+1) (.inr hp1) (by omega) (fun j h1 h2=>by rw [show j=i by omega];exact hp))
      go_wp2_with (first|(go_at_call 126;(with_reducible refine (rcut_calls _ _).mono ?_);rintro e _ ⟨rfl,rfl⟩;rw [Hc.out])|(with_reducible first|(clear hL;intro _ _ _ hL;try dsimp only at hL)|(clear hL n2;intro b2 w2 hL)|(clear hL;intro _ hL))|((with_reducible refine wpA_lit rfl _ _ _ rfl ?_);first|refine litA1 hL ?_|refine litA2 hL ?_)|((with_reducible refine goJ rfl ?_);refine goW ?_))
      go_roundw
      case rel =>
       refine ⟨i+1,by omega,by go_num,?_⟩
       unfold ARuns
       rw [Hn.out]
       simp only [List.length_append,List.map_append,List.flatten_append,List.length_cons,List.length_nil]
       exact hL
      case measure=>simp [intOf];omega
    ·have hi0:i=0:=by omega
     subst hi0
     have Hn:=Lib.hid (runsTo_run (i:=0) (e:=1) (.inl rfl) (by omega) (fun j h1 h2=>by rw [show j=0 by omega];exact hp))
     have hz:((0:Nat):Int)=0:=rfl
     go_wp2_with (first|(go_at_call 126;(with_reducible refine (rcut_calls _ _).mono ?_);rintro e _ ⟨rfl,rfl⟩;rw [Hc.out])|(with_reducible first|(clear hL;intro _ _ _ hL;try dsimp only at hL)|(clear hL n2;intro b2 w2 hL)|(clear hL;intro _ hL))|((with_reducible refine wpA_lit rfl _ _ _ rfl ?_);first|refine litA1 hL ?_|refine litA2 hL ?_)|((with_reducible refine goJ rfl ?_);refine goW ?_))
     go_roundw
     case rel =>
      refine ⟨1,by omega,by go_num,?_⟩
      unfold ARuns
      rw [Hn.out]
      simp only [List.length_append,List.map_append,List.flatten_append,List.length_cons,List.length_nil]
      exact hL
     case measure=>simp [intOf]
  ·have e:i=c:=by omega
   subst e
   go_wp2_with (first|(go_at_call 126;(with_reducible refine (rcut_calls _ _).mono ?_);rintro e _ ⟨rfl,rfl⟩;rw [Hc.out])|(with_reducible first|(clear hL;intro _ _ _ hL;try dsimp only at hL)|(clear hL n2;intro b2 w2 hL)|(clear hL;intro _ hL))|((with_reducible refine wpA_lit rfl _ _ _ rfl ?_);first|refine litA1 hL ?_|refine litA2 hL ?_)|((with_reducible refine goJ rfl ?_);refine goW ?_))
   go_ret
   rw [Hcn.out]
   exact hL.sliceOut .here (by simp) rfl (runC_len _)
theorem RunsAt.parts {w:World} {s:Value} {l:List (Int × Int)} (h:RunsAt w s l) :
  ∃ a cap,s=.slice a l.length cap∧l.length≤cap∧cap≤maxLen∧∀ i,i<l.length→∃ b o,a=some ⟨b,o,none⟩∧w.rangeAt b (o+i*2) [.int .i64 (l.getD i (0,0)).1,.int .i64 (l.getD i (0,0)).2]:=by
 obtain ⟨a,cap,h2,h3,h4,h5⟩:=h
 simp only [List.length_map] at h2 h3 h5
 refine ⟨a,cap,h2,h3,h4,fun i hi=>?_⟩
 obtain ⟨b,o,e,hr⟩:=h5 i hi
 refine ⟨b,o,e,?_⟩
 simp only [List.getElem_map,runC] at hr
 rw [show l.getD i (0,0)=l[i] by simp [hi]]
 exact hr
theorem list_eq_of {α:Type} (d:α) {l m:List α} (hl:l.length=m.length) (h:∀ i,i<l.length→l.getD i d=m.getD i d):l=m:=by
 apply List.ext_getElem hl
 intro i h1 h2
 have:=h i h1
 simpa [h1,h2] using this
set_option maxRecDepth 100000 in
set_option maxHeartbeats 1000000 in
theorem same_calls (w:World) (va vb:Value) (la lb:List (Int × Int)) (ha:RunsAt w va la) (hb:RunsAt w vb lb) :
  Calls Tryz.prog 85 #[va,vb] w fun e w'=>e=.returned (.bool (decide (la=lb)))∧Below w.heap.size w w':=by
 obtain ⟨a,ca,rfl,hla,hma,hea⟩:=ha.parts
 obtain ⟨b,cb,rfl,hlb,hmb,heb⟩:=hb.parts
 clear ha hb
 unfold maxLen at hma hmb
 have Hea:=Lib.hid hea;clear hea
 have Heb:=Lib.hid heb;clear heb
 have hL:=Holds.start w
 cases hne:((la.length:Int) != (lb.length:Int)) with
 | true =>
  have HR:=Lib.hid (show decide (la=lb)=false by
   simp at hne ⊢;intro e;exact hne (by rw [e]))
  go_enter Tryz.func85,Tryz.ntmps85
  go_wp2_with ((with_reducible refine goJ rfl ?_);refine goW ?_)
  go_ret
  exact ⟨ret_bool HR.out.symm,hL.below⟩
 | false =>
  have hlen:la.length=lb.length:=by simp at hne;omega
  have Hlen:=Lib.hid hlen
  clear hlen
  go_enter Tryz.func85,Tryz.ntmps85
  go_wp2_with ((with_reducible refine goJ rfl ?_);refine goW ?_)
  go_loopw [5] (fun s5 wr=>∃ k:Nat,k≤la.length∧s5=.int .i64 k∧(∀ j,j<k→la.getD j (0,0)=lb.getD j (0,0))∧Holds w wr [] [])
   (fun s5 wr=>la.length-(intOf s5).toNat)
  case atStart=>exact ⟨0,by omega,rfl,fun j hj=>by omega,hL⟩
  case round =>
   clear hL
   obtain ⟨k,hk,rfl,hall,hL⟩:=hrel
   have Hall:=Lib.hid hall;clear hall
   by_cases hlt:k<la.length
   ·have hltb:k<lb.length:=by have:=Hlen.out;omega
    obtain ⟨xa,oa,rfl,hra⟩:=Hea.out k hlt
    obtain ⟨xb,ob,rfl,hrb⟩:=Heb.out k hltb
    have a0:=hL.olds hra 0 _ rfl
    have a1:=hL.olds hra 1 _ rfl
    have b0:=hL.olds hrb 0 _ rfl
    have b1:=hL.olds hrb 1 _ rfl
    simp only [Nat.add_zero] at a0 b0
    clear hra hrb
    have Hfin:=Lib.hid (show ¬la.getD k (0,0)=lb.getD k (0,0)→decide (la=lb)=false by
     intro h;simp only [decide_eq_false_iff_not];intro e;exact h (by rw [e]))
    have Hext:=Lib.hid (show la.getD k (0,0)=lb.getD k (0,0) ↔ (la.getD k (0,0)).1=(lb.getD k (0,0)).1∧(la.getD k (0,0)).2=(lb.getD k (0,0)).2 by
     rw [Prod.ext_iff])
    generalize hA:la.getD k (0,0)=A at *
    generalize hB:lb.getD k (0,0)=B at *
    have HA:=Lib.hid hA;clear hA
    have HB:=Lib.hid hB;clear hB
    obtain ⟨f1,t1⟩:=A
    obtain ⟨f2,t2⟩:=B
    simp only at a0 a1 b0 b1 Hext
    cases hf:(f1 == f2) with
    | true =>
     cases ht:(t1 == t2) with
     | true =>
      go_wp2_with ((with_reducible refine goJ rfl ?_);refine goW ?_)
      go_region_held3 (fun w'=>w'.cell? ⟨xa,oa+k*2,none⟩=some (.int .i64 f1)∧w'.cell? ⟨xa,oa+k*2+1,none⟩=some (.int .i64 t1)∧w'.cell? ⟨xb,ob+k*2,none⟩=some (.int .i64 f2)∧w'.cell? ⟨xb,ob+k*2+1,none⟩=some (.int .i64 t2)) (go_keep) (fail)
      go_wp2
      go_roundw
      case rel =>
       refine ⟨k+1,by omega,by go_num,fun j hj=>?_,hL.drew⟩
       by_cases hjk:j=k
       ·subst hjk
        rw [HA.out,HB.out,Hext.out]
        exact ⟨by simpa using hf,by simpa using ht⟩
       ·exact Hall.out j (by omega)
      case measure=>simp [intOf];omega
     | false =>
      have HR:=Lib.hid (Hfin.out (by rw [Hext.out];intro e;simp at ht;exact ht e.2))
      go_wp2_with ((with_reducible refine goJ rfl ?_);refine goW ?_)
      go_region_held3 (fun w'=>w'.cell? ⟨xa,oa+k*2,none⟩=some (.int .i64 f1)∧w'.cell? ⟨xa,oa+k*2+1,none⟩=some (.int .i64 t1)∧w'.cell? ⟨xb,ob+k*2,none⟩=some (.int .i64 f2)∧w'.cell? ⟨xb,ob+k*2+1,none⟩=some (.int .i64 t2)) (go_keep) (fail)
      go_wp2
      go_ret
      exact ⟨ret_bool HR.out.symm,hL.drew.below⟩
    | false =>
     have HR:=Lib.hid (Hfin.out (by rw [Hext.out];intro e;simp at hf;exact hf e.1))
     go_wp2_with ((with_reducible refine goJ rfl ?_);refine goW ?_)
     go_region_held3 (fun w'=>w'.cell? ⟨xa,oa+k*2,none⟩=some (.int .i64 f1)∧w'.cell? ⟨xa,oa+k*2+1,none⟩=some (.int .i64 t1)∧w'.cell? ⟨xb,ob+k*2,none⟩=some (.int .i64 f2)∧w'.cell? ⟨xb,ob+k*2+1,none⟩=some (.int .i64 t2)) (go_keep) (fail)
     go_wp2
     go_ret
     exact ⟨ret_bool HR.out.symm,hL.drew.below⟩
   ·have e:k=la.length:=by omega
    subst e
    have HR:=Lib.hid (show decide (la=lb)=true by
     simp only [decide_eq_true_eq];exact list_eq_of (0,0) Hlen.out Hall.out)
    go_wp2_with ((with_reducible refine goJ rfl ?_);refine goW ?_)
    go_ret
    exact ⟨ret_bool HR.out.symm,hL.below⟩
set_option maxRecDepth 100000 in
set_option maxHeartbeats 1000000 in
theorem rows_calls (w:World) (va vb:Value) (ra rb:List (List (Int × Int))) (ha:RowsAt w va ra) (hb:RowsAt w vb rb) :
  Calls Tryz.prog 44 #[va,vb] w fun e w'=>e=.returned (.bool (decide (ra=rb)))∧Below w.heap.size w w':=by
 obtain ⟨a,ca,rfl,hla,hma,hea⟩:=ha.parts
 obtain ⟨b,cb,rfl,hlb,hmb,heb⟩:=hb.parts
 clear ha hb
 unfold maxLen at hma hmb
 have Hea:=Lib.hid hea;clear hea
 have Heb:=Lib.hid heb;clear heb
 have hL:=Holds.start w
 cases hne:((ra.length:Int) != (rb.length:Int)) with
 | true =>
  have HR:=Lib.hid (show decide (ra=rb)=false by
   simp at hne ⊢;intro e;exact hne (by rw [e]))
  go_enter Tryz.func44,Tryz.ntmps44
  go_wp2_with ((with_reducible refine goJ rfl ?_);refine goW ?_)
  go_ret
  exact ⟨ret_bool HR.out.symm,hL.below⟩
 | false =>
  have Hlen:=Lib.hid (show ra.length=rb.length by simp at hne;omega)
  go_enter Tryz.func44,Tryz.ntmps44
  go_wp2_with ((with_reducible refine goJ rfl ?_);refine goW ?_)
  go_loopw [5] (fun s5 wr=>∃ k:Nat,k≤ra.length∧s5=.int .i64 k∧(∀ j,j<k→ra.getD j []=rb.getD j [])∧Holds w wr [] [])
   (fun s5 wr=>ra.length-(intOf s5).toNat)
  case atStart=>exact ⟨0,by omega,rfl,fun j hj=>by omega,hL⟩
  case round =>
   clear hL
   obtain ⟨k,hk,rfl,hall,hL⟩:=hrel
   have Hall:=Lib.hid hall;clear hall
   by_cases hlt:k<ra.length
   ·have hltb:k<rb.length:=by have:=Hlen.out;omega
    obtain ⟨xa,oa,rfl,ya,na,za,hca,hra⟩:=Hea.out k hlt
    obtain ⟨xb,ob,rfl,yb,nb,zb,hcb,hrb⟩:=Heb.out k hltb
    have a0:=hL.old hca
    have b0:=hL.old hcb
    have Hra:=Lib.hid hra;clear hra
    have Hrb:=Lib.hid hrb;clear hrb
    have Hfin:=Lib.hid (show ¬ra.getD k []=rb.getD k []→decide (ra=rb)=false by
     intro h;simp only [decide_eq_false_iff_not];intro e;exact h (by rw [e]))
    generalize hA:ra.getD k []=A at *
    generalize hB:rb.getD k []=B at *
    have HA:=Lib.hid hA;clear hA
    have HB:=Lib.hid hB;clear hB
    by_cases hAB:A=B
    ·have hd:decide (A=B)=true:=by simp [hAB]
     have HAB:=Lib.hid hAB;clear hAB
     go_wp2_with ((with_reducible refine goJ rfl ?_);refine goW ?_)
     replace hL:=hL.drew
     go_region_held3 (fun w'=>w'.cell? ⟨xa,oa+k,none⟩=some (.slice ya na za)∧w'.cell? ⟨xb,ob+k,none⟩=some (.slice yb nb zb)) (first|go_keep|exact ⟨hL.old hca,hL.old hcb⟩)
      ((go_at_call 85;((with_reducible refine (same_calls _ _ _ _ _ (Hra.out.hold hL) (Hrb.out.hold hL)).mono ?_);rintro e w2 ⟨rfl,hb⟩;rw [hd];replace hL:=hL.call hb;clear hb)))
     go_wp2
     go_roundw
     case rel =>
      refine ⟨k+1,by omega,by go_num,fun j hj=>?_,hL⟩
      by_cases hjk:j=k
      ·subst hjk
       rw [HA.out,HB.out,HAB.out]
      ·exact Hall.out j (by omega)
     case measure=>simp [intOf];omega
    ·have HR:=Lib.hid (Hfin.out hAB)
     have hd:decide (A=B)=false:=by simp [hAB]
     go_wp2_with ((with_reducible refine goJ rfl ?_);refine goW ?_)
     replace hL:=hL.drew
     go_region_held3 (fun w'=>w'.cell? ⟨xa,oa+k,none⟩=some (.slice ya na za)∧w'.cell? ⟨xb,ob+k,none⟩=some (.slice yb nb zb)) (first|go_keep|exact ⟨hL.old hca,hL.old hcb⟩)
      ((go_at_call 85;((with_reducible refine (same_calls _ _ _ _ _ (Hra.out.hold hL) (Hrb.out.hold hL)).mono ?_);rintro e w2 ⟨rfl,hb⟩;rw [hd];replace hL:=hL.call hb;clear hb)))
     go_wp2
     go_ret
     exact ⟨ret_bool HR.out.symm,hL.below⟩
   ·have e:k=ra.length:=by omega
    subst e
    have HR:=Lib.hid (show decide (ra=rb)=true by
     simp only [decide_eq_true_eq];exact list_eq_of [] Hlen.out Hall.out)
    go_wp2_with ((with_reducible refine goJ rfl ?_);refine goW ?_)
    go_ret
    exact ⟨ret_bool HR.out.symm,hL.below⟩
def sameReg (A B:Reg):Bool:=decide (A.W=B.W)&&(decide (A.H=B.H)&&decide (A.rows=B.rows))
set_option maxRecDepth 100000 in
set_option maxHeartbeats 1000000 in
theorem helpRegion_calls (w:World) (va vb:Value) (A B:Reg) (ha:RegAt w va A) (hb:RegAt w vb B) :
  Calls Tryz.prog 17 #[va,vb] w fun e w'=>e=.returned (.bool (sameReg A B))∧Below w.heap.size w w':=by
 obtain ⟨xa,na,ca,rfl,hsa⟩:=ha.shape
 obtain ⟨xb,nb,cb,rfl,hsb⟩:=hb.shape
 clear ha hb
 obtain ⟨WA,HA,rA⟩:=A
 obtain ⟨WB,HB,rB⟩:=B
 simp only at hsa hsb ⊢
 have Hsa:=Lib.hid hsa;clear hsa
 have Hsb:=Lib.hid hsb;clear hsb
 have hL:=Holds.start w
 cases q1:(WA == WB) with
 | false =>
  have HR:=Lib.hid (show sameReg ⟨WA,HA,rA⟩ ⟨WB,HB,rB⟩=false by simp at q1;simp [sameReg,q1])
  obtain ⟨n1,n2⟩:=tok2
  go_enter Tryz.func17,Tryz.ntmps17
  go_wp2_with (first|(with_reducible first|(clear hL n1;intro b1 w1 hL)|(clear hL n2;intro b2 w2 hL))|((with_reducible refine goJ rfl ?_);refine goW ?_))
  go_ret
  exact ⟨ret_bool HR.out.symm,hL.below⟩
 | true =>
  cases q2:(HA == HB) with
  | false =>
   have HR:=Lib.hid (show sameReg ⟨WA,HA,rA⟩ ⟨WB,HB,rB⟩=false by simp at q2;simp [sameReg,q2])
   obtain ⟨n1,n2⟩:=tok2
   go_enter Tryz.func17,Tryz.ntmps17
   go_wp2_with (first|(with_reducible first|(clear hL n1;intro b1 w1 hL)|(clear hL n2;intro b2 w2 hL))|((with_reducible refine goJ rfl ?_);refine goW ?_))
   go_ret
   exact ⟨ret_bool HR.out.symm,hL.below⟩
  | true =>
   have HR:=Lib.hid (show sameReg ⟨WA,HA,rA⟩ ⟨WB,HB,rB⟩=decide (rA=rB) by simp at q1 q2;simp [sameReg,q1,q2])
   cases hd:decide (rA=rB) with
   | true =>
    rw [hd] at HR
    obtain ⟨n1,n2⟩:=tok2
    go_enter Tryz.func17,Tryz.ntmps17
    go_wp2_with (first|(go_at_call 44;(with_reducible refine (rows_calls _ _ _ rA rB (Hsa.out.below hL.below) (Hsb.out.below hL.below)).mono ?_);rintro e _ ⟨rfl,hb⟩;rw [hd];replace hL:=hL.call hb;clear hb)|(with_reducible first|(clear hL n1;intro b1 w1 hL)|(clear hL n2;intro b2 w2 hL))|((with_reducible refine goJ rfl ?_);refine goW ?_))
    go_ret
    exact ⟨ret_bool HR.out.symm,hL.below⟩
   | false =>
    rw [hd] at HR
    obtain ⟨n1,n2⟩:=tok2
    go_enter Tryz.func17,Tryz.ntmps17
    go_wp2_with (first|(go_at_call 44;(with_reducible refine (rows_calls _ _ _ rA rB (Hsa.out.below hL.below) (Hsb.out.below hL.below)).mono ?_);rintro e _ ⟨rfl,hb⟩;rw [hd];replace hL:=hL.call hb;clear hb)|(with_reducible first|(clear hL n1;intro b1 w1 hL)|(clear hL n2;intro b2 w2 hL))|((with_reducible refine goJ rfl ?_);refine goW ?_))
    go_ret
    exact ⟨ret_bool HR.out.symm,hL.below⟩
theorem runsTo_beyond {p:Nat→Bool} {n m:Nat} (hnm:n≤m) (h:∀ i,n≤i→i<m→p i=false):runsTo p m=runsTo p n:=by
 have:=rruns_const (p:=p) (i:=n) (m-n) (fun j h1 h2=>h j h1 (by omega))
 rw [show n+(m-n)=m by omega] at this
 rw [runsTo,this,runsTo]
theorem sameReg_self (A:Reg):sameReg A A=true:=by simp [sameReg]
open Go.RowKit
end Go.Proofs.YtmnoeoecjfhhbaaGreat
