/- Package path: Edges: the walk. -/
import Derived.Test.YtmnoeoecjfhhbaaGreatSegM
import Derived.Test.YtmnoeoecjfhhbaaGreatWndM
namespace Go.Proofs.YtmnoeoecjfhhbaaGreat
open Go.RowKit
structure Ct where
 x:Int
 y:Int
 edges:List Edg
 shut:Bool
instance : Inhabited Ct := ⟨⟨0, 0, [], false⟩⟩
def ctC (v:Value) (c:Ct):List Value:=[.int .i64 c.x,.int .i64 c.y,v,.bool c.shut]
def segE (x y:Int) (s:Sg):Edg:=⟨x,y,decide (s.kind=3),s.cx,s.cy,s.x,s.y⟩
def ctFold:List Sg→List Ct→Option Ct→Int→Int→List Ct
 | [],done,cur,_,_=>done++cur.toList
 | s::l,done,cur,x,y =>
  if s.kind=1 then ctFold l (done++cur.toList) (some ⟨s.x,s.y,[],false⟩) s.x s.y
  else match cur with
   | none=>ctFold l done none x y
   | some c=>if s.kind=4 then ctFold l done (some ⟨c.x,c.y,c.edges,true⟩) x y else ctFold l done (some ⟨c.x,c.y,c.edges++[segE x y s],c.shut⟩) s.x s.y
def contoursS (l:List Sg):List Ct:=if pathMay l then ctFold l [] none 0 0 else []
def CtsAt (w:World) (v:Value) (vs:List Value) (l:List Ct):Prop:=SliceAt w 4 v (List.zipWith ctC vs l)∧∀ i u,vs[i]?=some u→EdgesAt w u (l.getD i default).edges
def CtsOut (l:List Ct) (w:World) (e:Ending) (w':World):Prop:=∃ v vs,e=.returned v∧vs.length=l.length∧Below w.heap.size w w'∧Fresh w w' (fun w=>CtsAt w v vs l)
theorem rightS_first {s:Sg} (h:rightS s 0=true):s.kind=1:=by
 unfold rightS at h
 by_cases h1:s.kind=1
 ·exact h1
 ·by_cases h4:s.kind=4 <;> by_cases h2:s.kind=2∨s.kind=3 <;> simp [h1,h4,h2] at h
theorem rightS_kind {s:Sg} {last:Int} (h:rightS s last=true):s.kind=1∨s.kind=2∨s.kind=3∨s.kind=4:=by
 unfold rightS at h
 by_cases h1:s.kind=1
 ·exact .inl h1
 ·by_cases h4:s.kind=4
  ·exact .inr (.inr (.inr h4))
  ·by_cases h2:s.kind=2∨s.kind=3
   ·omega
   ·simp [h1,h4,h2] at h
theorem rightS_near {s:Sg} {last:Int} (h:rightS s last=true):near1 s.x=true∧near1 s.y=true∧near1 s.cx=true∧near1 s.cy=true:=by
 unfold rightS at h
 simp only [List.all_cons,List.all_nil,Bool.and_true,Bool.and_eq_true] at h
 exact ⟨h.1.1,h.1.2.1,h.1.2.2.1,h.1.2.2.2⟩
def CtHeld (w wr:World) (s3:Value) (done:List Ct) (c:Ct):Prop:=∃ (vs:List Value) (ve:Value),vs.length=done.length ∧
 Holds w wr [own w.heap.size 177 7 ve c.edges.length (c.edges.map edgeC).flatten,own w.heap.size 239 4 s3 (done.length+1) ((List.zipWith ctC vs done).flatten++ctC ve c)] [fun w=>∀ i u,vs[i]?=some u→EdgesAt w u (done.getD i default).edges]
theorem zip_len {vs:List Value} {l:List Ct}:∀ c∈List.zipWith ctC vs l,c.length=4:=by
 intro c hc
 obtain ⟨i,hi,rfl⟩:=List.getElem_of_mem hc
 simp [ctC]
theorem zip_flat_len (vs:List Value) (l:List Ct) (h:vs.length=l.length):(List.zipWith ctC vs l).flatten.length=l.length*4:=by
 induction l generalizing vs with
 | nil=>simp
 | cons c l ih =>
  cases vs with
  | nil=>simp at h
  | cons v vs =>
   rw [List.zipWith_cons_cons,List.flatten_cons,List.length_append,ih vs (by simpa using h),List.length_cons]
   simp [ctC];omega
theorem CtHeld.settle {w wr:World} {s3:Value} {done:List Ct} {c:Ct} (h:CtHeld w wr s3 done c):∃ vs:List Value,vs.length=(done++[c]).length∧Holds w wr [own w.heap.size 239 4 s3 (done++[c]).length (List.zipWith ctC vs (done++[c])).flatten] [fun w=>∀ i u,vs[i]?=some u→EdgesAt w u ((done++[c]).getD i default).edges]:=by
 obtain ⟨vs,ve,hl,hL⟩:=h
 refine ⟨vs++[ve],by simp [hl],?_⟩
 have h1:=(hL.settle .here (φ:=fun w=>EdgesAt w ve c.edges) fun w h=>own_sliceAt h (by rw [List.length_map]) rfl (edgeC_len _)).join (χ:=fun w=>∀ i u,(vs++[ve])[i]?=some u→EdgesAt w u ((done++[c]).getD i default).edges) fun w h1 h2 i u hu=>by
  by_cases hi:i<vs.length
  ·rw [List.getElem?_append_left hi] at hu
   have:=h2 i u hu
   rwa [show (done++[c]).getD i default=done.getD i default by simp [List.getD,List.getElem?_append_left (show i<done.length by omega)]]
  ·rw [List.getElem?_append_right (by omega)] at hu
   have hi0:i-vs.length=0:=by
    have:=(List.getElem?_eq_some_iff.1 hu).1
    simp at this;omega
   rw [hi0] at hu
   simp at hu
   subst hu
   have hid:i=done.length:=by omega
   rwa [show (done++[c]).getD i default=c by simp [hid]]
 rw [List.zipWith_append hl,List.flatten_append]
 simpa using h1
open Go.RowKit
theorem Holds.ownCell {w0 w:World} {M:List Res} {Φ:List (World→Prop)} {B:Nat} {e:TypeId} {k n cap g i:Nat} {xs:List Value} {v:Value} (h:Holds w0 w M Φ) (hat:At M (own B e k (.slice (some ⟨g,0,none⟩) n cap) n xs)) (hi:xs[i]?=some v):w.cell? ⟨g,i,none⟩=some v:=by
 obtain ⟨h1,h2|⟨g',cap',cur,hv,hb,hg,hnc,hcm,hcs,ht⟩⟩:=h.at hat
 ·cases h2.1
 ·cases hv
  rw [cell_of_row w g i cur e (0,0) hg,←Array.getElem?_toList]
  rw [←ht,List.getElem?_take] at hi
  split at hi
  ·exact hi
  ·cases hi
set_option maxRecDepth 100000 in
set_option maxHeartbeats 8000000 in
theorem contours_calls (w:World) (v:Value) (l:List Sg) (hv:SegsAt w v l):Calls Tryz.prog 194 #[v] w (CtsOut (contoursS l) w):=by
 have Hv:=Lib.hid hv
 obtain ⟨a,cap,rfl,hlc,hcm,hel⟩:=hv.parts
 clear hv
 unfold maxLen at hcm
 have Hel:=Lib.hid hel;clear hel
 have hL:=Holds.start w
 cases hm:pathMay l with
 | false =>
  have HR:=Lib.hid (show contoursS l=[] by unfold contoursS;rw [hm];rfl)
  have HM:=Lib.hid hm;clear hm
  generalize contoursS l=L at *
  go_enter Tryz.func194,Tryz.ntmps194
  go_wp2_with (first|(go_at_call 45;(with_reducible refine (pathMay_calls _ _ l (Hv.out.hold hL)).mono ?_);rintro e _ ⟨rfl,hb⟩;rw [HM.out];replace hL:=hL.call hb;clear hb)|((with_reducible refine wpA_lit rfl _ _ _ rfl ?_);first|refine litA1 hL ?_|refine litA2 hL ?_|refine litA3 hL ?_|refine litA4 hL ?_|refine litA6 hL ?_))
  go_ret
  rw [HR.out]
  exact ⟨_,[],rfl,rfl,hL.below,(hL.triv (χ:=fun w=>CtsAt w (.slice none 0 0) [] []) fun w=>⟨⟨none,0,rfl,Nat.le_refl _,by unfold maxLen;omega,fun i hi=>by simp at hi⟩,fun i u hi=>by simp at hi⟩).fresh⟩
 | true =>
  have HR:=Lib.hid (show contoursS l=ctFold l [] none 0 0 by unfold contoursS;rw [hm];rfl)
  have hmm:l.length≤300∧maySF 0 l=true:=by simpa [pathMay] using hm
  obtain ⟨hl300,hmay⟩:=hmm
  have HM:=Lib.hid hm;clear hm
  have HMay:=Lib.hid hmay;clear hmay
  generalize contoursS l=L at *
  go_enter Tryz.func194,Tryz.ntmps194
  go_wp2_with (first|(go_at_call 45;(with_reducible refine (pathMay_calls _ _ l (Hv.out.hold hL)).mono ?_);rintro e _ ⟨rfl,hb⟩;rw [HM.out];replace hL:=hL.call hb;clear hb)|((with_reducible refine wpA_lit rfl _ _ _ rfl ?_);first|refine litA1 hL ?_|refine litA2 hL ?_|refine litA3 hL ?_|refine litA4 hL ?_|refine litA6 hL ?_))
  go_loopw [3,4,5,14] (fun s3 s4 s5 s14 wr=>∃ (k:Nat) (x y:Int),k≤l.length∧s14=.int .i64 k∧s4=.int .i64 x∧s5=.int .i64 y∧maySF (lastK l k) (l.drop k)=true∧((k=0∧s3=.slice none 0 0∧L=ctFold l [] none x y∧Holds w wr [] [])∨(0<k∧∃ (done:List Ct) (c:Ct),L=ctFold (l.drop k) done (some c) x y∧done.length+1≤k∧c.edges.length≤k∧CtHeld w wr s3 done c)))
   (fun s3 s4 s5 s14 wr=>l.length-(intOf s14).toNat)
  case atStart=>exact ⟨0,0,0,by omega,rfl,rfl,rfl,HMay.out,.inl ⟨rfl,rfl,HR.out,hL⟩⟩
  case round =>
   clear hL
   obtain ⟨k,x,y,hk,rfl,rfl,rfl,hmay,hst⟩:=hrel
   by_cases hkt:k<l.length
   ·obtain ⟨b,o,rfl,hc⟩:=Hel.out k hkt
    rw [maySF_step hkt] at hmay
    simp only [Bool.and_eq_true] at hmay
    obtain ⟨hr,hmay⟩:=hmay
    have hdrop:l.drop k=l.getD k default::l.drop (k+1):=by rw [List.drop_eq_getElem_cons hkt];simp [hkt]
    have hls:=lastK_succ l k
    have HMay2:=Lib.hid hmay;clear hmay
    have hkb:(k:Int)<(l.length:Int):=by omega
    rcases hst with ⟨hk0,hs3,hfold,hL⟩|⟨hk0,done,c,hfold,hd1,hd2,hst⟩
    ·subst hs3
     have hk1:(l.getD k default).kind=1:=rightS_first (by rw [hk0] at hr ⊢;exact hr)
     have hf2:L=ctFold (l.drop (k+1)) [] (some ⟨(l.getD k default).x,(l.getD k default).y,[],false⟩) (l.getD k default).x (l.getD k default).y:=by
      rw [hfold]
      have hd0:l=l.getD k default::l.drop (k+1):=by rw [←hdrop,hk0];rfl
      have key:∀ m:List Sg,m=l.getD k default::l.drop (k+1)→ctFold m [] none x y=ctFold (l.drop (k+1)) [] (some ⟨(l.getD k default).x,(l.getD k default).y,[],false⟩) (l.getD k default).x (l.getD k default).y:=fun m hm=>by
       rw [hm,ctFold,if_pos hk1];simp
      exact key l hd0
     have HF:=Lib.hid hf2
     have HLs:=Lib.hid hls
     have HK0:=Lib.hid hk0
     clear hf2 hfold hr hdrop hls hk0
     generalize l.getD k default=s at *
     obtain ⟨kind,sx,sy,scx,scy⟩:=s
     unfold segC at hc
     dsimp only at hc hk1
     subst hk1
     replace hL:=hL.newOwn (B:=w.heap.size) (e:=239) (size:=4)
     have n1:True:=trivial
     go_wp2_with (first|(with_reducible first|(clear hL;intro _ _ _ hL;try dsimp only at hL)|(clear hL n1;intro b1 w1 hL)|(clear hL;intro _ _ hL)|(clear hL;intro _ hL))|((with_reducible refine wpA_lit rfl _ _ _ rfl ?_);first|refine litA1 hL ?_|refine litA2 hL ?_|refine litA3 hL ?_|refine litA4 hL ?_|refine litA6 hL ?_)|((with_reducible refine goJ rfl ?_);refine goW ?_))
     replace hL:=hL.drew
     have hS:(fun w':World=>w'.cell? ⟨b1,1,none⟩=some (.int .i64 sx)∧w'.cell? ⟨b1,2,none⟩=some (.int .i64 sy)) _:=⟨(hL.cell .here).trans rfl,(hL.cell .here).trans rfl⟩
     refine wpH_begin (by kernel_rfl) (fun w':World=>w'.cell? ⟨b1,1,none⟩=some (.int .i64 sx)∧w'.cell? ⟨b1,2,none⟩=some (.int .i64 sy)) ?_
     refine dsH 0 (.pointer (some ⟨b1,1,none⟩)) hS ?_
     refine drH 1 (.int .i64 sx) hS ?_ ?_;(· exact fun w' hw=>(load_cell hw.1))
     refine dsH 2 (.pointer (some ⟨b1,2,none⟩)) hS ?_
     refine drH 3 (.int .i64 sy) hS ?_ ?_;(· exact fun w' hw=>(load_cell hw.2))
     refine dsH 4 (.int .i64 sx) hS ?_
     refine dsH 5 (.int .i64 sy) hS ?_
     refine wpAnyH_done (by kernel_rfl) ?_ _
     clear hS
     go_wp2
     go_roundw
     case rel =>
      refine ⟨k+1,sx,sy,by omega,by go_num,rfl,rfl,by rw [HLs.out];exact HMay2.out,.inr ⟨by omega,[],⟨sx,sy,[],false⟩,HF.out,by simp,by simp,[],.slice none 0 0,rfl,?_⟩⟩
      exact ((hL.drop .here).newOwn (B:=w.heap.size) (e:=177) (size:=7)).triv fun w i u hu=>by simp at hu
     case measure=>simp [intOf];omega
    ·have hkind:=rightS_kind hr
     rcases (by omega:(l.getD k default).kind=1∨(l.getD k default).kind=4∨((l.getD k default).kind=2∨(l.getD k default).kind=3)) with hk1|hk1|hk1
     ·have hf2:L=ctFold (l.drop (k+1)) (done++[c]) (some ⟨(l.getD k default).x,(l.getD k default).y,[],false⟩) (l.getD k default).x (l.getD k default).y:=by
       rw [hfold,hdrop,ctFold,if_pos hk1];rfl
      obtain ⟨vs,hvl,hL⟩:=hst.settle
      have hd3:(done++[c]).length≤k:=by simpa using hd1
      have HF:=Lib.hid hf2
      have HLs:=Lib.hid hls
      clear hf2 hfold hr hdrop hls hst hkind
      generalize done++[c]=done2 at *
      generalize l.getD k default=s at *
      obtain ⟨kind,sx,sy,scx,scy⟩:=s
      unfold segC at hc
      dsimp only at hc hk1
      subst hk1
      have n1:True:=trivial
      go_wp2_with (first|(with_reducible first|(clear hL;intro _ _ _ hL;try dsimp only at hL)|(clear hL n1;intro b1 w1 hL)|(clear hL;intro _ _ hL)|(clear hL;intro _ hL))|((with_reducible refine wpA_lit rfl _ _ _ rfl ?_);first|refine litA1 hL ?_|refine litA2 hL ?_|refine litA3 hL ?_|refine litA4 hL ?_|refine litA6 hL ?_)|((with_reducible refine goJ rfl ?_);refine goW ?_))
      replace hL:=hL.drew
      have hS:(fun w':World=>w'.cell? ⟨b1,1,none⟩=some (.int .i64 sx)∧w'.cell? ⟨b1,2,none⟩=some (.int .i64 sy)) _:=⟨(hL.cell .here).trans rfl,(hL.cell .here).trans rfl⟩
      refine wpH_begin (by kernel_rfl) (fun w':World=>w'.cell? ⟨b1,1,none⟩=some (.int .i64 sx)∧w'.cell? ⟨b1,2,none⟩=some (.int .i64 sy)) ?_
      refine dsH 0 (.pointer (some ⟨b1,1,none⟩)) hS ?_
      refine drH 1 (.int .i64 sx) hS ?_ ?_;(· exact fun w' hw=>(load_cell hw.1))
      refine dsH 2 (.pointer (some ⟨b1,2,none⟩)) hS ?_
      refine drH 3 (.int .i64 sy) hS ?_ ?_;(· exact fun w' hw=>(load_cell hw.2))
      refine dsH 4 (.int .i64 sx) hS ?_
      refine dsH 5 (.int .i64 sy) hS ?_
      refine wpAnyH_done (by kernel_rfl) ?_ _
      clear hS
      go_wp2
      go_roundw
      case rel =>
       refine ⟨k+1,sx,sy,by omega,by go_num,rfl,rfl,by rw [HLs.out];exact HMay2.out,.inr ⟨by omega,done2,⟨sx,sy,[],false⟩,HF.out,by omega,by simp,vs,.slice none 0 0,hvl,?_⟩⟩
       exact (hL.drop .here).newOwn (B:=w.heap.size) (e:=177) (size:=7)
      case measure=>simp [intOf];omega
     ·have hk11:¬(l.getD k default).kind=1:=by omega
      have hf2:L=ctFold (l.drop (k+1)) done (some ⟨c.x,c.y,c.edges,true⟩) x y:=by
       rw [hfold,hdrop,ctFold,if_neg hk11]
       simp only [hk1,if_true]
      obtain ⟨vs,ve,hvl,hL⟩:=hst
      obtain ⟨g,oc,rfl,_,_⟩:=(hL.at (.there .here)).form (by omega)
      have hzl:((List.zipWith ctC vs done).flatten++ctC ve c).length=done.length*4+4:=by rw [List.length_append,zip_flat_len vs done hvl];rfl
      have HX:=Lib.hid (show ((List.zipWith ctC vs done).flatten++ctC ve c).set (done.length*4+3) (.bool true)=(List.zipWith ctC vs done).flatten++ctC ve ⟨c.x,c.y,c.edges,true⟩ by
       rw [List.set_append_right (h:=by rw [zip_flat_len vs done hvl];omega),zip_flat_len vs done hvl,show done.length*4+3-done.length*4=3 by omega];rfl)
      generalize (List.zipWith ctC vs done).flatten++ctC ve c=xs at *
      have HF:=Lib.hid hf2
      have HLs:=Lib.hid hls
      clear hf2 hfold hr hdrop hls hkind hk11
      generalize l.getD k default=s at *
      obtain ⟨kind,sx,sy,scx,scy⟩:=s
      unfold segC at hc
      dsimp only at hc hk1
      subst hk1
      have n1:True:=trivial
      go_wp2_with (first|(with_reducible first|(clear hL;intro _ _ _ hL;try dsimp only at hL)|(clear hL n1;intro b1 w1 hL)|(clear hL;intro _ _ hL)|(clear hL;intro _ hL))|((with_reducible refine wpA_lit rfl _ _ _ rfl ?_);first|refine litA1 hL ?_|refine litA2 hL ?_|refine litA3 hL ?_|refine litA4 hL ?_|refine litA6 hL ?_)|((with_reducible refine goJ rfl ?_);refine goW ?_))
      go_roundw
      case rel =>
       refine ⟨k+1,x,y,by omega,by go_num,rfl,rfl,by rw [HLs.out];exact HMay2.out,.inr ⟨by omega,done,⟨c.x,c.y,c.edges,true⟩,HF.out,by omega,by simp only;omega,vs,ve,hvl,?_⟩⟩
       rw [HX.out] at hL
       exact hL.drop .here
      case measure=>simp [intOf];omega
     ·have hk11:¬(l.getD k default).kind=1:=by omega
      have hk14:¬(l.getD k default).kind=4:=by omega
      have hf2:L=ctFold (l.drop (k+1)) done (some ⟨c.x,c.y,c.edges++[segE x y (l.getD k default)],c.shut⟩) (l.getD k default).x (l.getD k default).y:=by
       rw [hfold,hdrop,ctFold,if_neg hk11]
       simp only [hk14,if_false]
      obtain ⟨vs,ve,hvl,hL⟩:=hst
      obtain ⟨g,oc,rfl,_,_⟩:=(hL.at (.there .here)).form (by omega)
      obtain ⟨ea,ec,rfl⟩:=own_slice hL .here
      have hzl:((List.zipWith ctC vs done).flatten++ctC (.slice ea c.edges.length ec) c).length=done.length*4+4:=by rw [List.length_append,zip_flat_len vs done hvl];rfl
      have HG:=Lib.hid (show ((List.zipWith ctC vs done).flatten++ctC (.slice ea c.edges.length ec) c)[done.length*4+2]?=some (.slice ea c.edges.length ec) by
       rw [List.getElem?_append_right (by rw [zip_flat_len vs done hvl];omega),zip_flat_len vs done hvl,show done.length*4+2-done.length*4=2 by omega];rfl)
      have HX:=Lib.hid (show ∀ u es,((List.zipWith ctC vs done).flatten++ctC (.slice ea c.edges.length ec) c).set (done.length*4+2) u=(List.zipWith ctC vs done).flatten++ctC u ⟨c.x,c.y,es,c.shut⟩ by
       intro u es
       rw [List.set_append_right (h:=by rw [zip_flat_len vs done hvl];omega),zip_flat_len vs done hvl,show done.length*4+2-done.length*4=2 by omega];rfl)
      have HE:=Lib.hid (show ((c.edges++[segE x y (l.getD k default)]).map edgeC).flatten=(c.edges.map edgeC).flatten++[.int .i64 x,.int .i64 y,.bool ((l.getD k default).kind == 3),.int .i64 (l.getD k default).cx,.int .i64 (l.getD k default).cy,.int .i64 (l.getD k default).x,.int .i64 (l.getD k default).y] by
       rw [List.map_append,List.flatten_append]
       simp only [List.map_cons,List.map_nil,List.flatten_cons,List.flatten_nil,List.append_nil,segE,edgeC];congr 3)
      have HEl:=Lib.hid (show (c.edges++[segE x y (l.getD k default)]).length=c.edges.length+1 by rw [List.length_append];rfl)
      generalize (List.zipWith ctC vs done).flatten++ctC (.slice ea c.edges.length ec) c=xs at *
      generalize (c.edges.map edgeC).flatten=es at *
      have HF:=Lib.hid hf2
      have HLs:=Lib.hid hls
      clear hf2 hfold hr hdrop hls hkind hk1
      generalize c.edges++[segE x y (l.getD k default)]=edges2 at *
      generalize l.getD k default=s at *
      obtain ⟨kind,sx,sy,scx,scy⟩:=s
      unfold segC at hc
      dsimp only at hc hk11 hk14
      have n1:True:=trivial
      go_wp2_with (first|(with_reducible first|(clear hL;intro _ _ _ hL;try dsimp only at hL)|(clear hL n1;intro b1 w1 hL)|(clear hL;intro _ _ hL)|(clear hL;intro _ hL))|((with_reducible refine wpA_lit rfl _ _ _ rfl ?_);first|refine litA1 hL ?_|refine litA2 hL ?_|refine litA3 hL ?_|refine litA4 hL ?_|refine litA6 hL ?_)|((with_reducible refine goJ rfl ?_);refine goW ?_))
      replace hL:=hL.drew
      refine wpM_begin (by kernel_rfl) (fun w'=>w'.cell? ⟨b1,0,none⟩=some (.int .i64 kind)∧w'.cell? ⟨b1,1,none⟩=some (.int .i64 sx)∧w'.cell? ⟨b1,2,none⟩=some (.int .i64 sy)∧w'.cell? ⟨b1,3,none⟩=some (.int .i64 scx)∧w'.cell? ⟨b1,4,none⟩=some (.int .i64 scy)∧w'.cell? ⟨g,done.length*4+2,none⟩=some (.slice ea c.edges.length ec)) 23 ?_
      have hS:(fun w':World=>w'.cell? ⟨b1,0,none⟩=some (.int .i64 kind)∧w'.cell? ⟨b1,1,none⟩=some (.int .i64 sx)∧w'.cell? ⟨b1,2,none⟩=some (.int .i64 sy)∧w'.cell? ⟨b1,3,none⟩=some (.int .i64 scx)∧w'.cell? ⟨b1,4,none⟩=some (.int .i64 scy)∧w'.cell? ⟨g,done.length*4+2,none⟩=some (.slice ea c.edges.length ec)) _:=⟨(hL.cellA).trans rfl,(hL.cellA).trans rfl,(hL.cellA).trans rfl,(hL.cellA).trans rfl,(hL.cellA).trans rfl,hL.ownCell (by (repeat (first|with_reducible exact At.here|with_reducible apply At.there))) HG.out⟩
      refine dsM 0 (.pointer (some ⟨g,done.length*4,none⟩)) hS ?_
      refine dsM 1 (.pointer (some ⟨g,done.length*4,none⟩)) hS ?_
      refine dsM 2 (.pointer (some ⟨g,done.length*4,none⟩)) hS ?_
      refine dsM 3 (.pointer (some ⟨g,done.length*4+2,none⟩)) hS ?_
      refine drM 4 (.slice ea c.edges.length ec) hS ?_ ?_;(· exact fun w' hw=>(load_cell hw.2.2.2.2.2))
      refine dsM 5 (.int .i64 x) hS ?_
      refine dsM 6 (.int .i64 y) hS ?_
      refine dsM 7 (.pointer (some ⟨b1,0,none⟩)) hS ?_
      refine drM 8 (.int .i64 kind) hS ?_ ?_;(· exact fun w' hw=>(load_cell hw.1))
      refine dsM 9 (.bool (kind == 3)) hS ?_
      refine dsM 10 (.pointer (some ⟨b1,3,none⟩)) hS ?_
      refine drM 11 (.int .i64 scx) hS ?_ ?_;(· exact fun w' hw=>(load_cell hw.2.2.2.1))
      refine dsM 12 (.pointer (some ⟨b1,4,none⟩)) hS ?_
      refine drM 13 (.int .i64 scy) hS ?_ ?_;(· exact fun w' hw=>(load_cell hw.2.2.2.2.1))
      refine dsM 14 (.pointer (some ⟨b1,1,none⟩)) hS ?_
      refine drM 15 (.int .i64 sx) hS ?_ ?_;(· exact fun w' hw=>(load_cell hw.2.1))
      refine dsM 16 (.pointer (some ⟨b1,2,none⟩)) hS ?_
      refine drM 17 (.int .i64 sy) hS ?_ ?_;(· exact fun w' hw=>(load_cell hw.2.2.1))
      refine dsM 18 (.agg #[.int .i64 x,.int .i64 y,.bool (kind == 3),.int .i64 scx,.int .i64 scy,.int .i64 sx,.int .i64 sy]) hS ?_
      clear hS
      refine wpM_one (i:=19) (by kernel_rfl) (wpOf ?_)
      refine st_lit rfl _ _ _ rfl (litAt1 (.agg #[.int .i64 x,.int .i64 y,.bool (kind == 3),.int .i64 scx,.int .i64 scy,.int .i64 sx,.int .i64 sy]) (by simp only [List.map_toArray,List.map_cons,List.map_nil];rfl) inferInstance inferInstance (by simp [go_sem,Value.cells]) (by decide) #[.int .i64 x,.int .i64 y,.bool (kind == 3),.int .i64 scx,.int .i64 scy,.int .i64 sx,.int .i64 sy] (by simp [go_sem,litCells,Value.cells]) hL ?_)
      clear hL
      intro b7 w7 hL
      have hS:=(show (fun w':World=>w'.cell? ⟨b1,0,none⟩=some (.int .i64 kind)∧w'.cell? ⟨b1,1,none⟩=some (.int .i64 sx)∧w'.cell? ⟨b1,2,none⟩=some (.int .i64 sy)∧w'.cell? ⟨b1,3,none⟩=some (.int .i64 scx)∧w'.cell? ⟨b1,4,none⟩=some (.int .i64 scy)∧w'.cell? ⟨g,done.length*4+2,none⟩=some (.slice ea c.edges.length ec)) w7 from ⟨(hL.cellA).trans rfl,(hL.cellA).trans rfl,(hL.cellA).trans rfl,(hL.cellA).trans rfl,(hL.cellA).trans rfl,hL.ownCell (by (repeat (first|with_reducible exact At.here|with_reducible apply At.there))) HG.out⟩)
      refine ⟨fun _=>hS,?_⟩
      clear hS
      simp only [Act.put,setP]
      refine wpM_one (i:=20) (by kernel_rfl) (wpOf ?_)
      refine st_append rfl _ _ _ rfl (.slice ea c.edges.length ec) (.slice (some ⟨b7,0,none⟩) 1 1) rfl rfl (appendAt inferInstance inferInstance hL _ _ .here _ _ _ (fun r'=>.there .here) rfl (by decide) rfl (by simp [go_sem,Value.oneCell']) (by omega) (by unfold maxLen;omega) (by omega) ?_)
      clear hL
      intro ng ncap w8 hL
      have hS:=(show (fun w':World=>w'.cell? ⟨b1,0,none⟩=some (.int .i64 kind)∧w'.cell? ⟨b1,1,none⟩=some (.int .i64 sx)∧w'.cell? ⟨b1,2,none⟩=some (.int .i64 sy)∧w'.cell? ⟨b1,3,none⟩=some (.int .i64 scx)∧w'.cell? ⟨b1,4,none⟩=some (.int .i64 scy)∧w'.cell? ⟨g,done.length*4+2,none⟩=some (.slice ea c.edges.length ec)) w8 from ⟨(hL.cellA).trans rfl,(hL.cellA).trans rfl,(hL.cellA).trans rfl,(hL.cellA).trans rfl,(hL.cellA).trans rfl,hL.ownCell (by (repeat (first|with_reducible exact At.here|with_reducible apply At.there))) HG.out⟩)
      refine ⟨fun _=>hS,?_⟩
      simp only [Act.put,setP]
      refine stO (i:=21) (.pointer (some ⟨g,done.length*4,none⟩)) hS ?_ ?_;(· exact fun w'=>(by go_simp));simp only [Act.put,setP]
      refine dsM 22 (.pointer (some ⟨g,done.length*4+2,none⟩)) hS ?_
      clear hS
      refine wpM_one (i:=23) (by kernel_rfl) (wpOf ?_)
      refine st_store rfl _ _ _ rfl ⟨g,done.length*4+2,none⟩ rfl (.slice (some ⟨ng,0,none⟩) (c.edges.length+1) ncap) rfl (storeO hL ?_)
      clear hL
      intro w9 hL
      refine ⟨fun h=>absurd rfl h,wpM_done (by kernel_rfl) ?_⟩
      simp only [Act.put]
      go_wp2
      replace hL:=hL.drew
      have hS:(fun w':World=>w'.cell? ⟨b1,1,none⟩=some (.int .i64 sx)∧w'.cell? ⟨b1,2,none⟩=some (.int .i64 sy)) _:=⟨(hL.cell .here).trans rfl,(hL.cell .here).trans rfl⟩
      refine wpH_begin (by kernel_rfl) (fun w':World=>w'.cell? ⟨b1,1,none⟩=some (.int .i64 sx)∧w'.cell? ⟨b1,2,none⟩=some (.int .i64 sy)) ?_
      refine dsH 0 (.pointer (some ⟨b1,1,none⟩)) hS ?_
      refine drH 1 (.int .i64 sx) hS ?_ ?_;(· exact fun w' hw=>(load_cell hw.1))
      refine dsH 2 (.pointer (some ⟨b1,2,none⟩)) hS ?_
      refine drH 3 (.int .i64 sy) hS ?_ ?_;(· exact fun w' hw=>(load_cell hw.2))
      refine dsH 4 (.int .i64 sx) hS ?_
      refine dsH 5 (.int .i64 sy) hS ?_
      refine wpAnyH_done (by kernel_rfl) ?_ _
      clear hS
      go_wp2
      go_roundw
      case rel =>
       refine ⟨k+1,sx,sy,by omega,by go_num,rfl,rfl,by rw [HLs.out];exact HMay2.out,.inr ⟨by omega,done,⟨c.x,c.y,edges2,c.shut⟩,HF.out,by omega,by have:=HEl.out;simp only;omega,vs,.slice (some ⟨ng,0,none⟩) (c.edges.length+1) ncap,hvl,?_⟩⟩
       rw [HX.out _ edges2,←HE.out,←HEl.out] at hL
       have h3:=hL.drop .here
       simp only [HEl.out] at h3 ⊢
       exact h3
      case measure=>simp [intOf];omega
   ·have e:k=l.length:=by omega
    subst e
    rcases hst with ⟨hk0,hs3,hfold,hL⟩|⟨hk0,done,c,hfold,hd1,hd2,hst⟩
    ·subst hs3
     have hnil:L=[]:=by
      rw [hfold,List.length_eq_zero_iff.1 hk0];rfl
     have HN:=Lib.hid hnil
     clear hfold hnil
     go_wp2_with (first|(with_reducible first|(clear hL;intro _ _ _ hL;try dsimp only at hL)|(clear hL n1;intro b1 w1 hL)|(clear hL;intro _ _ hL)|(clear hL;intro _ hL))|((with_reducible refine wpA_lit rfl _ _ _ rfl ?_);first|refine litA1 hL ?_|refine litA2 hL ?_|refine litA3 hL ?_|refine litA4 hL ?_|refine litA6 hL ?_)|((with_reducible refine goJ rfl ?_);refine goW ?_))
     go_ret
     rw [HN.out]
     exact ⟨_,[],rfl,rfl,hL.below,(hL.triv (χ:=fun w=>CtsAt w (.slice none 0 0) [] []) fun w=>⟨⟨none,0,rfl,Nat.le_refl _,by unfold maxLen;omega,fun i hi=>by simp at hi⟩,fun i u hi=>by simp at hi⟩).fresh⟩
    ·obtain ⟨vs,hvl,hL⟩:=hst.settle
     rw [List.drop_length] at hfold
     have hL2:L=done++[c]:=by rw [hfold];rfl
     have HN:=Lib.hid hL2
     clear hL2 hfold hst
     generalize done++[c]=d2 at *
     obtain ⟨g,oc,rfl⟩:=own_slice hL .here
     go_wp2_with (first|(with_reducible first|(clear hL;intro _ _ _ hL;try dsimp only at hL)|(clear hL n1;intro b1 w1 hL)|(clear hL;intro _ _ hL)|(clear hL;intro _ hL))|((with_reducible refine wpA_lit rfl _ _ _ rfl ?_);first|refine litA1 hL ?_|refine litA2 hL ?_|refine litA3 hL ?_|refine litA4 hL ?_|refine litA6 hL ?_)|((with_reducible refine goJ rfl ?_);refine goW ?_))
     go_ret
     rw [HN.out]
     exact ⟨_,vs,rfl,hvl,hL.below,((hL.settle .here (φ:=fun w=>SliceAt w 4 (.slice g d2.length oc) (List.zipWith ctC vs d2)) fun w h=>own_sliceAt h (by simp [hvl]) rfl zip_len).join (χ:=fun w=>CtsAt w (.slice g d2.length oc) vs d2) fun w h1 h2=>⟨h1,h2⟩).fresh⟩
open Go.RowKit
def endE (c:Ct):Edg:=c.edges.getD (c.edges.length-1) default
def edgesC (c:Ct):List Edg:=if c.edges.length=0 then [] else if (endE c).x1=c.x∧(endE c).y1=c.y then c.edges else c.edges++[⟨(endE c).x1,(endE c).y1,false,0,0,c.x,c.y⟩]
def edgesS (l:List Sg):List Edg:=(contoursS l).flatMap edgesC
def ctW (c:Ct):Nat:=c.edges.length+1
theorem ctFold_weight:∀ (l:List Sg) (done:List Ct) (cur:Option Ct) (x y:Int),((ctFold l done cur x y).map ctW).sum≤(done.map ctW).sum+(cur.toList.map ctW).sum+l.length
 | [],done,cur,_,_=>by simp [ctFold]
 | s::l,done,cur,x,y=>by
  unfold ctFold
  split
  ·refine Nat.le_trans (ctFold_weight l _ _ _ _) ?_
   simp [ctW];omega
  ·cases cur with
   | none=>refine Nat.le_trans (ctFold_weight l _ _ _ _) ?_;simp
   | some c =>
    simp only
    split
    ·refine Nat.le_trans (ctFold_weight l _ _ _ _) ?_;simp [ctW]
    ·refine Nat.le_trans (ctFold_weight l _ _ _ _) ?_;simp [ctW];omega
theorem edgesC_weight (c:Ct):(edgesC c).length≤ctW c:=by
 unfold edgesC ctW
 split
 ·simp
 ·split <;> simp
theorem flat_weight:∀ l:List Ct,(l.flatMap edgesC).length≤(l.map ctW).sum
 | []=>by simp
 | c::l=>by
  have h1:=edgesC_weight c
  have h2:=flat_weight l
  simp only [List.flatMap_cons,List.length_append,List.map_cons,List.sum_cons]
  omega
theorem contours_weight (l:List Sg):((contoursS l).map ctW).sum≤300:=by
 unfold contoursS
 split
 ·rename_i h
  have h2:l.length≤300:=by
   have:l.length≤300∧maySF 0 l=true:=by simpa [pathMay] using h
   exact this.1
  refine Nat.le_trans (ctFold_weight l [] none 0 0) ?_
  simpa using h2
 ·simp
theorem contours_len (l:List Sg):(contoursS l).length≤300:=by
 refine Nat.le_trans ?_ (contours_weight l)
 have:∀ m:List Ct,m.length≤(m.map ctW).sum:=by
  intro m
  induction m with
  | nil=>simp
  | cons c m ih=>simp only [List.map_cons,List.sum_cons,List.length_cons];unfold ctW at ih ⊢;omega
 exact this _
theorem take_flat (l:List Ct) (k:Nat) (h:k<l.length):(l.take (k+1)).flatMap edgesC=(l.take k).flatMap edgesC++edgesC (l.getD k default):=by
 rw [List.take_succ_eq_append_getElem h,List.flatMap_append]
 simp [h]
theorem take_weight (l:List Ct) (k:Nat) (h:k<l.length):((l.take k).flatMap edgesC).length+ctW (l.getD k default)≤(l.map ctW).sum:=by
 have h1:=flat_weight (l.take k)
 have h2:(l.map ctW).sum=((l.take k).map ctW).sum+((l.drop k).map ctW).sum:=by
  rw [←List.sum_append,←List.map_append,List.take_append_drop]
 have h3:l.drop k=l.getD k default::l.drop (k+1):=by rw [List.drop_eq_getElem_cons h];simp [h]
 rw [h3,List.map_cons,List.sum_cons] at h2
 omega
theorem edgesS_len (l:List Sg):(edgesS l).length≤300:=Nat.le_trans (flat_weight _) (contours_weight l)
theorem zip_get (vs:List Value) (l:List Ct) (h:vs.length=l.length) (k:Nat) (hk:k<l.length):∃ u,vs[k]?=some u∧∀ h2:k<(List.zipWith ctC vs l).length,(List.zipWith ctC vs l)[k]=ctC u (l.getD k default):=by
 refine ⟨vs[k]'(by omega),by simp,fun h2=>?_⟩
 simp [hk]
theorem edgesC_nil {c:Ct} (h:c.edges.length=0):edgesC c=[]:=by unfold edgesC;rw [if_pos h]
theorem edgesC_shut {c:Ct} (h:¬c.edges.length=0) (h2:(endE c).x1=c.x∧(endE c).y1=c.y):edgesC c=c.edges:=by unfold edgesC;rw [if_neg h,if_pos h2]
theorem edgesC_open {c:Ct} (h:¬c.edges.length=0) (h2:¬((endE c).x1=c.x∧(endE c).y1=c.y)):edgesC c=c.edges++[⟨(endE c).x1,(endE c).y1,false,0,0,c.x,c.y⟩]:=by unfold edgesC;rw [if_neg h,if_neg h2]
open Go.RowKit
def EdgesOut (l:List Edg) (w:World) (e:Ending) (w':World):Prop:=∃ v,e=.returned v∧Below w.heap.size w w'∧Fresh w w' (fun w=>EdgesAt w v l)
theorem appendE {P:Program} {w0 w:World} {M:List Res} {Φ:List (World→Prop)} {K2:Value→World→Prop} {t ty e bytes:Nat} {z v u:Value} [ht:SliceT P t e] [hi:ElemT P e 7 bytes z] {l:List Edg} (hs:EdgesAt w u l)
  (hL:Holds w0 w M Φ) {n:Nat} {xs:List Value} {f:Res→List Res}
  (h:∀ v' w',Holds w0 w' (f (own w0.heap.size e 7 v' (n+l.length) (xs++(l.map edgeC).flatten))) Φ→K2 v' w')
  (hu:∀ r',Upd M (own w0.heap.size e 7 v n xs) r' (f r'):=by intro _;(repeat (first|with_reducible exact Upd.here|with_reducible apply Upd.there)))
  (hz:z.cells.size=7:=by rfl) (h63:n+l.length≤maxLen:=by (unfold maxLen;omega)) (hbytes:(n+l.length)*bytes≤140737488355328:=by omega):AppendAt P t ty v u w K2 :=
 appendOld hs (edgeC_len l) (by intro x hx y hy;obtain ⟨e,_,rfl⟩:=List.mem_map.1 hx;unfold edgeC at hy;simp only [List.mem_cons,List.not_mem_nil,or_false] at hy;rcases hy with h|h|h|h|h|h|h <;> subst h <;> rfl) hL hu hz (by decide) (by rw [List.length_map];exact h63) (by rw [List.length_map];exact hbytes) (by intro v' w' h';rw [List.length_map] at h';exact h v' w' h')
set_option maxRecDepth 100000 in
set_option maxHeartbeats 1000000 in
theorem edges_calls (w:World) (v:Value) (l:List Sg) (hv:SegsAt w v l):Calls Tryz.prog 186 #[v] w (EdgesOut (edgesS l) w):=by
 have Hv:=Lib.hid hv
 obtain ⟨a,cap,rfl,hlc,hcm,hel⟩:=hv.parts
 clear hv hel
 unfold maxLen at hcm
 have hL:=Holds.start w
 have HR:=Lib.hid (show edgesS l=((contoursS l).take (contoursS l).length).flatMap edgesC by rw [List.take_length];rfl)
 have hW:=contours_weight l
 have hC:=contours_len l
 generalize edgesS l=L at *
 have Hc:∀ w':World,Below w.heap.size w w'→Calls Tryz.prog 194 #[.slice a l.length cap] w' (CtsOut (contoursS l) w'):=fun w' hb=>contours_calls w' _ l (SliceAt.below Hv.out hb)
 have HC:=Lib.hid Hc
 clear Hc
 generalize contoursS l=cts at *
 have HW:=Lib.hid hW
 clear hW
 go_enter Tryz.func186,Tryz.ntmps186
 go_wp2_with (first|(go_at_call 194;(with_reducible refine (HC.out _ hL.below).mono ?_);rintro e _ ⟨vc,vs,rfl,hvl,hb,hf⟩;obtain ⟨sa,sc,rfl⟩:∃ sa sc,vc=.slice sa cts.length sc:=(by obtain ⟨h1,_⟩:=hf.now;obtain ⟨a,c,h,_⟩:=h1;refine ⟨a,c,?_⟩;rw [h,List.length_zipWith,hvl,Nat.min_self]);replace hL:=hL.callF hb hf;clear hb hf)|((with_reducible refine wpA_lit rfl _ _ _ rfl ?_);first|refine litA1 hL ?_|refine litA2 hL ?_))
 go_loopw [3,10] (fun s3 s10 wr=>∃ (k:Nat) (acc:List Edg),k≤cts.length∧s10=.int .i64 k∧acc=(cts.take k).flatMap edgesC∧Holds w wr [own w.heap.size 177 7 s3 acc.length (acc.map edgeC).flatten] [fun w=>CtsAt w (.slice sa cts.length sc) vs cts])
  (fun s3 s10 wr=>cts.length-(intOf s10).toNat)
 case atStart=>exact ⟨0,[],by omega,rfl,by simp,hL.newOwn⟩
 case round =>
  clear hL
  obtain ⟨k,acc,hk,rfl,hacc,hL⟩:=hrel
  by_cases hkt:k<cts.length
  ·have hwt:=Nat.le_trans (take_weight cts k hkt) HW.out
   rw [←hacc] at hwt
   have hnext:=take_flat cts k hkt
   rw [←hacc] at hnext
   have hget:∃ bx ox u,sa=some ⟨bx,ox,none⟩∧vs[k]?=some u∧wr.rangeAt bx (ox+k*4) (ctC u (cts.getD k default)):=by
    obtain ⟨⟨a',c',he,_,_,h5⟩,_⟩:=hL.fact0
    injection he with he _ _
    subst he
    have hzl:(List.zipWith ctC vs cts).length=cts.length:=by rw [List.length_zipWith,hvl,Nat.min_self]
    obtain ⟨bx,ox,e,hr⟩:=h5 k (by omega)
    obtain ⟨u,hu,hz⟩:=zip_get vs cts hvl k hkt
    rw [hz (by omega)] at hr
    exact ⟨bx,ox,u,e,hu,hr⟩
   obtain ⟨bx,ox,u,rfl,hu,hc⟩:=hget
   have hkb:(k:Int)<(cts.length:Int):=by omega
   replace hL:=(hL.dup).map (χ:=fun w=>EdgesAt w u (cts.getD k default).edges) fun w h=>h.2 k u hu
   have HN:=Lib.hid hnext
   have HACC:=Lib.hid hacc
   clear hnext hu hacc
   generalize cts.getD k default=c at *
   obtain ⟨cx,cy,ces,csh⟩:=c
   unfold ctC at hc
   unfold ctW at hwt
   dsimp only at hc hwt hL
   by_cases h0:ces.length=0
   ·have HE:=Lib.hid (edgesC_nil (c:=⟨cx,cy,ces,csh⟩) h0)
    obtain ⟨ea,ec,rfl,_⟩:=EdgesAt.parts hL.fact0
    rw [h0] at hL hc
    obtain ⟨n1,n2,n3⟩:=tok3
    go_wp2_with (first|(with_reducible first|(clear hL n1;intro b1 w1 hL)|(clear hL;intro _ hL))|((with_reducible refine wpA_lit rfl _ _ _ rfl ?_);first|refine litA1 hL ?_|refine litA2 hL ?_)|((with_reducible refine goJ rfl ?_);refine goW ?_))
    go_roundw
    case rel=>exact ⟨k+1,acc,by omega,by go_num,by rw [HN.out,HE.out,List.append_nil],(hL.forget).drop .here⟩
    case measure=>simp [intOf];omega
   ·obtain ⟨m,hm⟩:∃ m,ces.length=m+1:=⟨ces.length-1,by omega⟩
    obtain ⟨ea,ec,rfl,hec1,hec2,hel⟩:=EdgesAt.parts hL.fact0
    obtain ⟨be,oe,rfl,_⟩:=hel m (by omega)
    clear hel
    unfold maxLen at hec2
    have HEd:=Lib.hid (show endE ⟨cx,cy,ces,csh⟩=ces.getD m default by unfold endE;rw [hm];rfl)
    replace hL:=(hL.dup).map (χ:=fun w=>w.rangeAt be (oe+m*7) (edgeC (ces.getD m default))) fun w h=>by
     obtain ⟨a',c',he,_,_,h5⟩:=EdgesAt.parts h
     cases he
     obtain ⟨b',o',e,hr⟩:=h5 m (by omega)
     cases e
     exact hr
    have hcs:(((endE ⟨cx,cy,ces,csh⟩).x1=cx∧(endE ⟨cx,cy,ces,csh⟩).y1=cy)∧edgesC ⟨cx,cy,ces,csh⟩=ces)∨(¬(endE ⟨cx,cy,ces,csh⟩).x1=cx∧edgesC ⟨cx,cy,ces,csh⟩=ces++[⟨(endE ⟨cx,cy,ces,csh⟩).x1,(endE ⟨cx,cy,ces,csh⟩).y1,false,0,0,cx,cy⟩])∨(((endE ⟨cx,cy,ces,csh⟩).x1=cx∧¬(endE ⟨cx,cy,ces,csh⟩).y1=cy)∧edgesC ⟨cx,cy,ces,csh⟩=ces++[⟨(endE ⟨cx,cy,ces,csh⟩).x1,(endE ⟨cx,cy,ces,csh⟩).y1,false,0,0,cx,cy⟩]):=by
     by_cases h1:(endE ⟨cx,cy,ces,csh⟩).x1=cx
     ·by_cases h2:(endE ⟨cx,cy,ces,csh⟩).y1=cy
      ·exact .inl ⟨⟨h1,h2⟩,edgesC_shut h0 ⟨h1,h2⟩⟩
      ·exact .inr (.inr ⟨⟨h1,h2⟩,edgesC_open h0 (fun h=>h2 h.2)⟩)
     ·exact .inr (.inl ⟨h1,edgesC_open h0 (fun h=>h1 h.1)⟩)
    rw [HEd.out] at hcs
    clear HEd
    generalize edgesC ⟨cx,cy,ces,csh⟩=NE at *
    generalize ces.getD m default=ed at *
    obtain ⟨ex0,ey0,eb,ecx,ecy,ex1,ey1⟩:=ed
    unfold edgeC at hL
    dsimp only at hL hcs
    rw [hm] at hc
    have hL:Holds w wr [own w.heap.size 177 7 u3 acc.length (acc.map edgeC).flatten] [fun w=>w.rangeAt be (oe+m*7) [.int .i64 ex0,.int .i64 ey0,.bool eb,.int .i64 ecx,.int .i64 ecy,.int .i64 ex1,.int .i64 ey1],fun w=>EdgesAt w (.slice (some ⟨be,oe,none⟩) (m+1) ec) ces,fun w=>CtsAt w (.slice (some ⟨bx,ox,none⟩) cts.length sc) vs cts]:=by rw [hm] at hL;exact hL
    obtain ⟨g3,c3,rfl⟩:=own_slice hL .here
    have hm1:ces.length≤m+1:=by omega
    have hm2:m+1≤ces.length:=by omega
    have HM:=Lib.hid hm
    clear hm
    rcases hcs with ⟨⟨hx,hy⟩,hE⟩|⟨hx,hE⟩|⟨⟨hx,hy⟩,hE⟩
    ·subst hx;subst hy
     have HE:=Lib.hid hE
     clear hE
     obtain ⟨n1,n2,n3⟩:=tok3
     go_wp2_with (first|((with_reducible refine wpA_append rfl _ _ _ rfl (.slice _ _ _) rfl ?_);intro vq hvq;simp [go_sem] at hvq;subst hvq;refine appendE hL.fact1 hL ?_;clear hL;intro ve2 _ hL)|((with_reducible refine wpA_load rfl _ _ rfl _ rfl ?_);(with_reducible refine loadG hL ?_ ?_);(· rfl))|(with_reducible first|(clear hL;intro _ _ _ hL;try dsimp only at hL)|(clear hL n1;intro b1 w1 hL)|(clear hL n2;intro b2 w2 hL)|(clear hL n3;intro b3 w3 hL)|(clear hL;intro _ hL))|((with_reducible refine wpA_lit rfl _ _ _ rfl ?_);first|refine litA1 hL ?_|refine litA2 hL ?_)|((with_reducible refine goJ rfl ?_);refine goW ?_))
     go_roundw
     case rel =>
      refine ⟨k+1,acc++ces,by omega,by go_num,by rw [HN.out,HE.out],?_⟩
      rw [List.length_append,List.map_append,List.flatten_append]
      exact (((hL.drop .here).drop .here).forget).forget
     case measure=>simp [intOf];omega
    ·have HE:=Lib.hid hE
     clear hE
     obtain ⟨n1,n2,n3⟩:=tok3
     go_wp2_with (first|((with_reducible refine wpA_append rfl _ _ _ rfl (.slice _ _ _) rfl ?_);intro vq hvq;simp [go_sem] at hvq;subst hvq;refine appendE hL.fact1 hL ?_;clear hL;intro ve2 _ hL)|((with_reducible refine wpA_load rfl _ _ rfl _ rfl ?_);(with_reducible refine loadG hL ?_ ?_);(· rfl))|(with_reducible first|(clear hL;intro _ _ _ hL;try dsimp only at hL)|(clear hL n1;intro b1 w1 hL)|(clear hL n2;intro b2 w2 hL)|(clear hL n3;intro b3 w3 hL)|(clear hL;intro _ hL))|((with_reducible refine wpA_lit rfl _ _ _ rfl ?_);first|refine litA1 hL ?_|refine litA2 hL ?_)|((with_reducible refine goJ rfl ?_);refine goW ?_))
     go_roundw
     case rel =>
      refine ⟨k+1,acc++(ces++[⟨ex1,ey1,false,0,0,cx,cy⟩]),by omega,by go_num,by rw [HN.out,HE.out],?_⟩
      have hL2:=(((hL.drop .here).drop .here).forget).forget
      rw [List.length_append,List.length_append,List.map_append,List.flatten_append,List.map_append,List.flatten_append,←List.append_assoc,←Nat.add_assoc]
      exact hL2
     case measure=>simp [intOf];omega
    ·subst hx
     have HE:=Lib.hid hE
     clear hE
     obtain ⟨n1,n2,n3⟩:=tok3
     go_wp2_with (first|((with_reducible refine wpA_append rfl _ _ _ rfl (.slice _ _ _) rfl ?_);intro vq hvq;simp [go_sem] at hvq;subst hvq;refine appendE hL.fact1 hL ?_;clear hL;intro ve2 _ hL)|((with_reducible refine wpA_load rfl _ _ rfl _ rfl ?_);(with_reducible refine loadG hL ?_ ?_);(· rfl))|(with_reducible first|(clear hL;intro _ _ _ hL;try dsimp only at hL)|(clear hL n1;intro b1 w1 hL)|(clear hL n2;intro b2 w2 hL)|(clear hL n3;intro b3 w3 hL)|(clear hL;intro _ hL))|((with_reducible refine wpA_lit rfl _ _ _ rfl ?_);first|refine litA1 hL ?_|refine litA2 hL ?_)|((with_reducible refine goJ rfl ?_);refine goW ?_))
     go_roundw
     case rel =>
      refine ⟨k+1,acc++(ces++[⟨ex1,ey1,false,0,0,ex1,cy⟩]),by omega,by go_num,by rw [HN.out,HE.out],?_⟩
      have hL2:=(((hL.drop .here).drop .here).forget).forget
      rw [List.length_append,List.length_append,List.map_append,List.flatten_append,List.map_append,List.flatten_append,←List.append_assoc,←Nat.add_assoc]
      exact hL2
     case measure=>simp [intOf];omega
  ·have e:k=cts.length:=by omega
   subst e
   have HA:=Lib.hid (show L=acc by rw [hacc,HR.out])
   clear hacc
   obtain ⟨g,oc,rfl⟩:=own_slice hL .here
   obtain ⟨n1,n2,n3⟩:=tok3
   go_wp2_with (first|(with_reducible first|(clear hL n1;intro b1 w1 hL)|(clear hL;intro _ hL))|((with_reducible refine wpA_lit rfl _ _ _ rfl ?_);first|refine litA1 hL ?_|refine litA2 hL ?_)|((with_reducible refine goJ rfl ?_);refine goW ?_))
   go_ret
   rw [HA.out]
   exact ⟨_,rfl,hL.below,(hL.settle .here (φ:=fun w=>EdgesAt w (.slice g acc.length oc) acc) fun w h=>own_sliceAt h (by rw [List.length_map]) rfl (edgeC_len _)).fresh⟩
end Go.Proofs.YtmnoeoecjfhhbaaGreat
