/- Runs, rows and regions. -/
import Derived.Test.YtmnoeoecjfhhbaaGreatSpB
import Derived.Deep.QuietTactic
import Derived.BigQuiet
import Derived.Test.YtmnoeoecjfhhbaaGreatMkdM
namespace Go.Proofs.YtmnoeoecjfhhbaaGreat
open Go.RowKit
theorem SliceAt.shape {w:World} {k:Nat} {v:Value} {els:List (List Value)} (h:SliceAt w k v els):∃ a n c,v=.slice a n c:=by
 obtain ⟨a,c,h,_⟩:=h;exact ⟨a,_,c,h⟩
structure Reg where
 W:Int
 H:Int
 rows:List (List (Int × Int))
def RowsAt (w:World) (s:Value) (rows:List (List (Int × Int))):Prop :=
 ∃ vs:List Value,vs.length=rows.length∧SliceAt w 1 s (vs.map fun v=>[v])∧∀ i v,vs[i]?=some v→RunsAt w v (rows.getD i [])
theorem RowsAt.below {w w':World} {s:Value} {rows:List (List (Int × Int))} (h:RowsAt w s rows) (hb:Below w.heap.size w w'):RowsAt w' s rows:=by
 obtain ⟨vs,h1,h2,h3⟩:=h
 exact ⟨vs,h1,h2.below hb,fun i v hv=>SliceAt.below (h3 i v hv) hb⟩
theorem rows_of {w:World} {b h:Nat} {cs:Array Value} {T:TypeId} {F:Nat→List (Int × Int)} (hb:w.heap[b]?=some (.cells cs T (0,0))) (hs:cs.size=h) (hm:h≤maxLen) (hv:∀ i,i<h→∃ v,cs[i]?=some v∧RunsAt w v (F i)) :
  RowsAt w (.slice (some ⟨b,0,none⟩) h h) ((List.range h).map F):=by
 subst hs
 refine ⟨cs.toList,by simp,⟨_,cs.size,by simp,by simp,hm,fun i hi=>⟨b,0,rfl,fun j v hj=>?_⟩⟩,fun i v hi=>?_⟩
 ·simp only [List.getElem_map] at hj
  have hj0:j=0:=by
   rcases j with _|j
   ·rfl
   ·simp at hj
  subst hj0
  rw [cell_of_row w b _ cs T (0,0) hb]
  simp at hj hi
  simp
  rw [Array.getElem?_eq_getElem hi,hj]
 ·obtain ⟨v',h1,h2⟩:=hv i (by have:=(List.getElem?_eq_some_iff.1 hi).1;simpa using this)
  have hi':cs[i]?=some v:=by simpa using hi
  rw [h1] at hi'
  cases hi'
  have hlt:i<cs.size:=(Array.getElem?_eq_some_iff.1 h1).1
  have e:((List.range cs.size).map F).getD i []=F i:=by simp [hlt]
  rw [e]
  exact h2
def RegAt (w:World) (v:Value) (R:Reg):Prop:=∃ s,v=.agg #[.int .i64 R.W,.int .i64 R.H,s]∧RowsAt w s R.rows
theorem RegAt.below {w w':World} {v:Value} {R:Reg} (h:RegAt w v R) (hb:Below w.heap.size w w'):RegAt w' v R:=by
 obtain ⟨s,h1,h2⟩:=h
 exact ⟨s,h1,h2.below hb⟩
def RegOut (R:Reg) (err:Int) (w:World) (e:Ending) (w':World):Prop :=
 ∃ v,e=.returned (.tuple #[v,.int .i64 err])∧Below w.heap.size w w'∧Fresh w w' (fun w=>RegAt w v R)
def RunsRet (l:List (Int × Int)) (w:World) (e:Ending) (w':World):Prop :=
 ∃ v,e=.returned v∧Below w.heap.size w w'∧RunsAt w' v l
def noReg:Reg:=⟨0,0,[]⟩
theorem noReg_at (w:World):RegAt w (.agg #[.int .i64 0,.int .i64 0,.slice none 0 0]) noReg :=
 ⟨_,rfl,[],rfl,⟨none,0,rfl,Nat.le_refl _,by unfold maxLen;omega,fun i hi=>by simp at hi⟩,fun i v h=>by simp at h⟩
theorem RowsAt.parts {w:World} {s:Value} {rows:List (List (Int × Int))} (h:RowsAt w s rows) :
  ∃ a cap,s=.slice a rows.length cap∧rows.length≤cap∧cap≤maxLen∧∀ i,i<rows.length→∃ b o,a=some ⟨b,o,none⟩∧∃ va vn vc,w.cell? ⟨b,o+i,none⟩=some (.slice va vn vc)∧RunsAt w (.slice va vn vc) (rows.getD i []):=by
 obtain ⟨vs,h1,⟨a,cap,h2,h3,h4,h5⟩,h6⟩:=h
 simp only [List.length_map] at h2 h3 h5
 rw [h1] at h2 h3
 refine ⟨a,cap,h2,h3,h4,fun i hi=>?_⟩
 have hi':i<vs.length:=by omega
 obtain ⟨b,o,e,hr⟩:=h5 i hi'
 have h7:=h6 i vs[i] (by simp [hi'])
 obtain ⟨va,vn,vc,ev⟩:=SliceAt.shape h7
 refine ⟨b,o,e,va,vn,vc,?_,by rw [←ev];exact h7⟩
 have:=hr 0 vs[i] (by simp)
 simp only [Nat.mul_one,Nat.add_zero] at this
 rw [this,ev]
theorem RegAt.hold {w0 w:World} {M:List Res} {Φ:List (World→Prop)} {v:Value} {R:Reg} (h:RegAt w0 v R) (hL:Holds w0 w M Φ):RegAt w v R:=h.below hL.below
theorem RegAt.shape {w:World} {v:Value} {R:Reg} (h:RegAt w v R):∃ sa sn sc,v=.agg #[.int .i64 R.W,.int .i64 R.H,.slice sa sn sc]∧RowsAt w (.slice sa sn sc) R.rows:=by
 obtain ⟨s,h1,h2⟩:=h
 obtain ⟨a,cap,rfl,_⟩:=h2.parts
 exact ⟨a,_,cap,h1,h2⟩
set_option maxHeartbeats 400000 in
theorem rcut_calls (a:Int) (w:World) :
  Calls Tryz.prog 126 #[.int .i64 a] w fun e w'=>e=.returned (.int .i64 (cutI a))∧w=w':=by
 have hL:=Holds.start w
 go_enter Tryz.func126,Tryz.ntmps126
 go_wp2_with ((with_reducible refine goJ rfl ?_);refine goW ?_)
 go_ret
 exact ⟨by show Ending.returned (.int .i64 (min (max a 0) 64))=_;rw [show min (max a 0) 64=cutI a by unfold cutI;omega],rfl⟩
theorem runC_flat_len (l:List (Int × Int)):((l.map runC).flatten).length=l.length*2:=by
 induction l with
 | nil=>rfl
 | cons a l ih=>simp [runC] at ih ⊢;omega
theorem runsTo_grow {p:Nat→Bool} {n:Nat} (h:p n=true) (h0:0<n) (h1:p (n-1)=true) :
  (runsTo p (n+1)).length=(runsTo p n).length∧0<(runsTo p n).length∧((runsTo p n).map runC).flatten.set (((runsTo p n).length-1)*2+1) (.int .i64 ((n:Int)+1))=((runsTo p (n+1)).map runC).flatten:=by
 obtain ⟨f,r,e1,e2⟩:=rruns_more h h0 h1
 have r1:runsTo p n=r.reverse++[(f,(n:Int))]:=by rw [runsTo,e1,List.reverse_cons]
 have r2:runsTo p (n+1)=r.reverse++[(f,(n:Int)+1)]:=by rw [runsTo,e2,List.reverse_cons]
 rw [r1,r2]
 refine ⟨by simp,by simp,?_⟩
 simp only [List.map_append,List.flatten_append,List.length_append,List.length_cons,List.length_nil,Nat.add_sub_cancel]
 rw [List.set_append_right (h:=by rw [runC_flat_len];omega),runC_flat_len]
 simp [runC]
def ARuns (p:Nat→Bool) (w:World) (b:Nat) (i:Nat) (s:Value) (wr:World):Prop :=
 Holds w wr [own w.heap.size 124 2 s (runsTo p i).length ((runsTo p i).map runC).flatten,blk b (arrB p) 131] []
set_option maxRecDepth 100000 in
set_option maxHeartbeats 1000000 in
theorem refRuns_calls (w:World) (p:Nat→Bool) (W:Int) :
  Calls Tryz.prog 83 #[.agg (arrB p),.int .i64 W] w (RunsOut (runsTo p (cutI W).toNat) w):=by
 have hL:=Holds.start w
 have hcl:=cutI_le W
 obtain ⟨c,hc⟩:=Int.eq_ofNat_of_zero_le hcl.1
 have Hc:=Lib.hid hc
 have Hcn:=Lib.hid (show (cutI W).toNat=c by omega)
 have hc64:c≤64:=by omega
 clear hcl hc
 obtain ⟨n1,n2,n3,n4⟩:=tok4
 go_enter Tryz.func83,Tryz.ntmps83
 go_wp2_with (first|(with_reducible (clear hL n1;intro b1 w1 hL))|((with_reducible refine wpA_lit rfl _ _ _ rfl ?_);first|refine litA1 hL ?_|refine litA2 hL ?_)|((with_reducible refine goJ rfl ?_);refine goW ?_))
 go_loopw [5,6] (fun s5 s6 wr=>∃ i:Nat,i≤c∧s6=.int .i64 i∧ARuns p w b1 i s5 wr)
  (fun s5 s6 wr=>(64-intOf s6).toNat)
 case atStart=>exact ⟨0,by omega,rfl,hL.newOwn⟩
 case round =>
  clear hL
  obtain ⟨i,hi,rfl,hL⟩:=hrel
  unfold ARuns at hL
  have hlen:=runsTo_len p i
  by_cases hlt:i<c
  ·cases hp:p i with
   | false =>
    have Hn:=Lib.hid (runsTo_off hp)
    go_wp2_with (first|(go_at_call 126;(with_reducible refine (rcut_calls _ _).mono ?_);rintro e _ ⟨rfl,rfl⟩;rw [Hc.out])|(with_reducible first|(clear hL;intro _ _ _ hL;try dsimp only at hL)|(clear hL n2;intro b2 w2 hL)|(clear hL;intro _ hL))|((with_reducible refine wpA_lit rfl _ _ _ rfl ?_);first|refine litA1 hL ?_|refine litA2 hL ?_)|((with_reducible refine goJ rfl ?_);refine goW ?_))
    go_roundw
    case rel=>exact ⟨i+1,by omega,by go_num,by unfold ARuns;rw [Hn.out];exact hL⟩
    case measure=>simp [intOf];omega
   | true =>
    by_cases h0:0<i
    ·have c1:=hL.cell (o:=i-1) (.there .here)
     rw [arrB_get _ (by omega)] at c1
     cases hp1:p (i-1) with
     | true =>
      rw [hp1] at c1
      obtain ⟨q1,q2,q3⟩:=runsTo_grow hp h0 hp1
      obtain ⟨g,cap,rfl⟩:=own_shape hL .here q2
      have Hq1:=Lib.hid q1;clear q1
      have Hq3:=Lib.hid q3;clear q3
      have hxl:=runC_flat_len (runsTo p i)
      go_wp2_with (first|(go_at_call 126;(with_reducible refine (rcut_calls _ _).mono ?_);rintro e _ ⟨rfl,rfl⟩;rw [Hc.out])|(with_reducible first|(clear hL;intro _ _ _ hL;try dsimp only at hL)|(clear hL n2;intro b2 w2 hL)|(clear hL;intro _ hL))|((with_reducible refine wpA_lit rfl _ _ _ rfl ?_);first|refine litA1 hL ?_|refine litA2 hL ?_)|((with_reducible refine goJ rfl ?_);refine goW ?_))
      go_roundw
      case rel=>exact ⟨i+1,by omega,by go_num,by unfold ARuns;rw [Hq1.out,←Hq3.out];exact hL⟩
      case measure=>simp [intOf];omega
     | false =>
      rw [hp1] at c1
      have Hn:=Lib.hid (runsTo_run (e:=i+1) (.inr hp1) (by omega) (fun j h1 h2=>by rw [show j=i by omega];exact hp))
      go_wp2_with (first|(go_at_call 126;(with_reducible refine (rcut_calls _ _).mono ?_);rintro e _ ⟨rfl,rfl⟩;rw [Hc.out])|(with_reducible first|(clear hL;intro _ _ _ hL;try dsimp only at hL)|(clear hL n2;intro b2 w2 hL)|(clear hL;intro _ hL))|((with_reducible refine wpA_lit rfl _ _ _ rfl ?_);first|refine litA1 hL ?_|refine litA2 hL ?_)|((with_reducible refine goJ rfl ?_);refine goW ?_))
      go_roundw
      case rel =>
       refine ⟨i+1,by omega,by go_num,?_⟩
       unfold ARuns
       rw [Hn.out]
       simp only [List.length_append,List.map_append,List.flatten_append,List.length_cons,List.length_nil]
       exact hL
      case measure=>simp [intOf];omega
    ·have hi0:i=0:=by omega
     subst hi0
     have Hn:=Lib.hid (runsTo_run (i:=0) (e:=1) (.inl rfl) (by omega) (fun j h1 h2=>by rw [show j=0 by omega];exact hp))
     have hz:((0:Nat):Int)=0:=rfl
     go_wp2_with (first|(go_at_call 126;(with_reducible refine (rcut_calls _ _).mono ?_);rintro e _ ⟨rfl,rfl⟩;rw [Hc.out])|(with_reducible first|(clear hL;intro _ _ _ hL;try dsimp only at hL)|(clear hL n2;intro b2 w2 hL)|(clear hL;intro _ hL))|((with_reducible refine wpA_lit rfl _ _ _ rfl ?_);first|refine litA1 hL ?_|refine litA2 hL ?_)|((with_reducible refine goJ rfl ?_);refine goW ?_))
     go_roundw
     case rel =>
      refine ⟨1,by omega,by go_num,?_⟩
      unfold ARuns
      rw [Hn.out]
      simp only [List.length_append,List.map_append,List.flatten_append,List.length_cons,List.length_nil]
      exact hL
     case measure=>simp [intOf]
  ·have e:i=c:=by omega
   subst e
   go_wp2_with (first|(go_at_call 126;(with_reducible refine (rcut_calls _ _).mono ?_);rintro e _ ⟨rfl,rfl⟩;rw [Hc.out])|(with_reducible first|(clear hL;intro _ _ _ hL;try dsimp only at hL)|(clear hL n2;intro b2 w2 hL)|(clear hL;intro _ hL))|((with_reducible refine wpA_lit rfl _ _ _ rfl ?_);first|refine litA1 hL ?_|refine litA2 hL ?_)|((with_reducible refine goJ rfl ?_);refine goW ?_))
   go_ret
   rw [Hcn.out]
   exact hL.sliceOut .here (by simp) rfl (runC_len _)
theorem RunsAt.parts {w:World} {s:Value} {l:List (Int × Int)} (h:RunsAt w s l) :
  ∃ a cap,s=.slice a l.length cap∧l.length≤cap∧cap≤maxLen∧∀ i,i<l.length→∃ b o,a=some ⟨b,o,none⟩∧w.rangeAt b (o+i*2) [.int .i64 (l.getD i (0,0)).1,.int .i64 (l.getD i (0,0)).2]:=by
 obtain ⟨a,cap,h2,h3,h4,h5⟩:=h
 simp only [List.length_map] at h2 h3 h5
 refine ⟨a,cap,h2,h3,h4,fun i hi=>?_⟩
 obtain ⟨b,o,e,hr⟩:=h5 i hi
 refine ⟨b,o,e,?_⟩
 simp only [List.getElem_map,runC] at hr
 rw [show l.getD i (0,0)=l[i] by simp [hi]]
 exact hr
theorem runsTo_beyond {p:Nat→Bool} {n m:Nat} (hnm:n≤m) (h:∀ i,n≤i→i<m→p i=false):runsTo p m=runsTo p n:=by
 have:=rruns_const (p:=p) (i:=n) (m-n) (fun j h1 h2=>h j h1 (by omega))
 rw [show n+(m-n)=m by omega] at this
 rw [runsTo,this,runsTo]
open Go.RowKit
end Go.Proofs.YtmnoeoecjfhhbaaGreat
