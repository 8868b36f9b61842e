/- Package tympanref43: Clips. -/
import Derived.Test.YtmnoeoecjfhhbaaGreatRf2
import Derived.Test.YtmnoeoecjfhhbaaGreatRf5
namespace Go.Proofs.YtmnoeoecjfhhbaaGreat
open Go.RowKit
def maskQ (m:Msk) (j i:Nat):Bool:=m.B.getD (m.W.toNat*j+i) 0 == 1
def ofReg (m:Msk):Reg:=if mayMask m then pixReg m.W.toNat m.H.toNat (maskQ m) else noReg
def ofErr (m:Msk):Int:=if mayMask m then 0 else 1
def upTo (q:Nat→Bool) (n:Nat) (c:Nat):Bool:=decide (c<n)&&q c
theorem upTo_set (q:Nat→Bool) (n:Nat):arrB (fun c=>if c=n then q n else upTo q n c)=arrB (upTo q (n+1)):=by
 refine arrB_congr fun c _=>?_
 unfold upTo
 by_cases h:c=n
 ·subst h;simp
 ·have:c<n+1 ↔ c<n:=by omega
  simp [h,this]
theorem runsTo_upTo (q:Nat→Bool) (n:Nat):runsTo (upTo q n) n=runsTo q n:=runsTo_congr fun i hi=>by simp [upTo,hi]
theorem mayMask_parts {m:Msk} (h:mayMask m=true):∃ W H:Nat,m.W=W∧m.H=H∧Sides W H∧m.B.length=W*H:=by
 simp only [mayMask,Bool.and_eq_true,decide_eq_true_eq] at h
 obtain ⟨h1,h2,h3,_⟩:=h
 obtain ⟨a,b,c,d,_,_⟩:=side_mul h1 h2
 obtain ⟨W,hW⟩:=Int.eq_ofNat_of_zero_le (show 0≤m.W by omega)
 obtain ⟨H,hH⟩:=Int.eq_ofNat_of_zero_le (show 0≤m.H by omega)
 refine ⟨W,H,hW,hH,⟨by omega,by omega,by omega,by omega⟩,?_⟩
 rw [hW,hH] at h3
 have:((m.B.length:Nat):Int)=((W*H:Nat):Int):=by rw [h3];simp
 omega
set_option maxRecDepth 100000 in
set_option maxHeartbeats 2000000 in
theorem refOf_calls (w:World) (v:Value) (m:Msk) (hv:MaskAt w v m) :
  Calls Tryz.prog 39 #[v] w (RegOut (ofReg m) (ofErr m) w):=by
 have Hm:=Lib.hid hv
 obtain ⟨a,cap,rfl,hlc,hcm,hB⟩:=hv.shape
 obtain ⟨a',cap',he,_,_,hel⟩:=hB.parts
 cases he
 clear hB hv
 have hL:=Holds.start w
 cases hm:mayMask m with
 | false =>
  have HR:=Lib.hid (show ofReg m=noReg by simp [ofReg,hm])
  have HE:=Lib.hid (show ofErr m=1 by simp [ofErr,hm])
  clear hel
  obtain ⟨n1,n2,n3⟩:=tok3
  go_enter Tryz.func39,Tryz.ntmps39
  go_wp2_with (first|(go_at_call 82;(with_reducible refine (refMayMask_calls _ _ _ (Hm.out.hold hL)).mono ?_);rintro e _ ⟨rfl,hb⟩;rw [hm];replace hL:=hL.call hb;clear hb)|(with_reducible first|(clear hL n1;intro b1 w1 hL)|(clear hL n2;intro b2 w2 hL)|(clear hL;intro _ hL))|((with_reducible refine wpA_lit rfl _ _ _ rfl ?_);first|refine litA1 hL ?_|refine litA2 hL ?_)|((with_reducible refine goJ rfl ?_);refine goW ?_))
  exact bodyPost_ret (results_row2 inferInstance rfl _ hL b2 rfl _ _ .here rfl) rfl ⟨_,ret_tup HE.out.symm,hL.below,by rw [HR.out];exact (hL.triv noReg_at).fresh⟩
 | true =>
  obtain ⟨W,H,hW,hH,hs,hlen⟩:=mayMask_parts hm
  have HR:=Lib.hid (show ofReg m=pixReg W H (maskQ m) by simp [ofReg,hm,hW,hH])
  have HE:=Lib.hid (show ofErr m=0 by simp [ofErr,hm])
  obtain ⟨mW,mH,B⟩:=m
  simp only at hW hH hlen hel hlc ⊢
  subst hW;subst hH
  have Hq:=Lib.hid (show ∀ j i,maskQ ⟨(W:Int),(H:Int),B⟩ j i=(B.getD (W*j+i) 0 == 1) from fun j i=>by simp [maskQ])
  generalize maskQ ⟨(W:Int),(H:Int),B⟩=q at *
  have Hel:=Lib.hid hel;clear hel
  have Hlen:=Lib.hid hlen;clear hlen
  obtain ⟨hw0,hw1,hh0,hh1⟩:=id hs
  unfold maxLen at hcm
  obtain ⟨n1,n2,n3,n4⟩:=tok4
  go_enter Tryz.func39,Tryz.ntmps39
  go_wp2_with (first|(go_at_call 82;(with_reducible refine (refMayMask_calls _ _ _ (Hm.out.hold hL)).mono ?_);rintro e _ ⟨rfl,hb⟩;rw [hm];replace hL:=hL.call hb;clear hb)|(with_reducible first|(clear hL n1;intro b1 w1 hL)|(clear hL n2;intro b2 w2 hL)|(clear hL n3;intro b3 w3 hL)|(clear hL;intro _ hL))|((with_reducible refine wpA_lit rfl _ _ _ rfl ?_);first|refine litA1 hL ?_|refine litA2 hL ?_)|((with_reducible refine goJ rfl ?_);refine goW ?_))
  go_loopw [5] (fun s5 wr=>∃ (j:Nat) (s:Value) (xs:List Value),j≤H∧s5=.int .i64 j∧xs.length=j∧Holds w wr [own w.heap.size 115 1 s j xs,blk b3 #[.int .i64 W,.int .i64 H,s] 39,blk b2 #[.int .i64 0,.int .i64 0,.slice none 0 0] 39,blk b1 #[.int .i64 W,.int .i64 H,.slice a B.length cap] 86] [fun w=>∀ i v,xs[i]?=some v→RunsAt w v (runsTo (q i) W)])
   (fun s5 wr=>(64-intOf s5).toNat)
  case atStart=>exact ⟨0,.slice none 0 0,[],by omega,rfl,rfl,hL.newOwn.triv (fun _ i v h=>by simp at h)⟩
  case round =>
   clear hL
   obtain ⟨j,s,xs,hj,rfl,hxs,hL⟩:=hrel
   obtain ⟨sa,sc,rfl⟩:=own_slice hL .here
   have Hxs:=Lib.hid hxs;clear hxs
   by_cases hjt:j<H
   ·go_wp2_with (first|(with_reducible (clear hL n4;intro b4 w4 hL))|((with_reducible refine wpA_lit rfl _ _ _ rfl ?_);first|refine litA1 hL ?_|refine litA2 hL ?_)|((with_reducible refine goJ rfl ?_);refine goW ?_))
    go_loopw [7] (fun s7 wr=>∃ i:Nat,i≤W∧s7=.int .i64 i∧Holds w wr [blk b4 (arrB (upTo (q j) i)) 131,own w.heap.size 115 1 (.slice sa j sc) j xs,blk b3 #[.int .i64 W,.int .i64 H,.slice sa j sc] 39,blk b2 #[.int .i64 0,.int .i64 0,.slice none 0 0] 39,blk b1 #[.int .i64 W,.int .i64 H,.slice a B.length cap] 86] [fun w=>∀ i v,xs[i]?=some v→RunsAt w v (runsTo (q i) W)])
     (fun s7 wr=>(64-intOf s7).toNat)
    case atStart =>
     rw [show arrB (fun _=>false)=arrB (upTo (q j) 0) from arrB_congr fun c _=>by simp [upTo]] at hL
     exact ⟨0,by omega,rfl,hL⟩
    case round =>
     clear hL
     obtain ⟨i,hi,rfl,hL⟩:=hrel
     by_cases hit:i<W
     ·have hidx:W*j+i<B.length:=by
       have:=idx_lt hjt hit
       rw [Hlen.out,Nat.mul_comm W j];exact this
      obtain ⟨b,o,rfl,hc⟩:=Hel.out (W*j+i) hidx
      have Hx:=Lib.hid (Hq.out j i)
      have Hst:=Lib.hid (upTo_set (q j) i)
      rw [Hx.out] at Hst
      generalize B.getD (W*j+i) 0=x at *
      have hidx2:(W:Int)*(j:Int)+(i:Int)<(B.length:Int):=by
       have:((W*j+i:Nat):Int)<(B.length:Int):=by omega
       simpa using this
      have hidx3:0≤(W:Int)*(j:Int):=Int.mul_nonneg (by omega) (by omega)
      have hidx4:(W:Int)*(j:Int)≤4096:=by
       have:=Nat.mul_le_mul hw1 (show j≤64 by omega)
       have h:((W*j:Nat):Int)≤4096:=by omega
       simpa using h
      go_wp2_with (first|(with_reducible (clear hL;intro _ hL))|((with_reducible refine wpA_lit rfl _ _ _ rfl ?_);first|refine litA1 hL ?_|refine litA2 hL ?_)|((with_reducible refine goJ rfl ?_);refine goW ?_))
      go_roundw
      case rel =>
       rw [Hst.out] at hL
       exact ⟨i+1,by omega,by go_num,hL⟩
      case measure=>simp [intOf];omega
     ·have e:i=W:=by omega
      subst e
      have Hcut:=Lib.hid (show (cutI (i:Int)).toNat=i by unfold cutI;omega)
      go_wp2_with (first|(with_reducible (clear hL;intro _ hL))|((with_reducible refine wpA_lit rfl _ _ _ rfl ?_);first|refine litA1 hL ?_|refine litA2 hL ?_)|((with_reducible refine goJ rfl ?_);refine goW ?_))
      replace hL:=hL.drew
      refine wpM_begin (by kernel_rfl) (fun w'=>w'.cell? ⟨b3,2,none⟩=some (.slice sa j sc)∧w'.cell? ⟨b1,0,none⟩=some (.int .i64 i)∧w'.rangeAt b4 0 (arrB (upTo (q j) i)).toList) 9 ?_
      have hS:(fun w':World=>w'.cell? ⟨b3,2,none⟩=some (.slice sa j sc)∧w'.cell? ⟨b1,0,none⟩=some (.int .i64 i)∧w'.rangeAt b4 0 (arrB (upTo (q j) i)).toList) _:=⟨(hL.cellA).trans rfl,(hL.cellA).trans rfl,hL.range (by (repeat (first|with_reducible exact At.here|with_reducible apply At.there)))⟩
      refine wpM_take1 (i:=0) (by simp only [List.getElem?_toArray,List.getElem?_cons_zero];rfl) ?_
      refine ⟨.pointer (some ⟨b3,2,none⟩),by kernel_rfl,by kernel_rfl,by kernel_rfl,by kernel_rfl,fun _ _ _ h=>h,hS,rfl,(fun w' hw=>by go_simp),?_⟩
      simp only [Act.put,setP]
      refine wpM_take1 (i:=1) (by simp only [List.getElem?_toArray,List.getElem?_cons_zero,List.getElem?_cons_succ];rfl) ?_
      refine ⟨.slice sa j sc,by kernel_rfl,by kernel_rfl,by kernel_rfl,by kernel_rfl,fun _ _ _ h=>h,hS,rfl,(fun w' hw=>run_loadOp _ _ rfl _ rfl _ (load_cell hw.1)),?_⟩
      simp only [Act.put,setP]
      refine wpM_take1 (i:=2) (by simp only [List.getElem?_toArray,List.getElem?_cons_zero,List.getElem?_cons_succ];rfl) ?_
      refine ⟨.agg (arrB (upTo (q j) i)),by kernel_rfl,by kernel_rfl,by kernel_rfl,by kernel_rfl,fun _ _ _ h=>h,hS,rfl,(fun w' hw=>run_loadOp _ _ rfl _ rfl _ (load_range (by rw [arrB_size]) hw.2.2)),?_⟩
      simp only [Act.put,setP]
      refine wpM_take1 (i:=3) (by simp only [List.getElem?_toArray,List.getElem?_cons_zero,List.getElem?_cons_succ];rfl) ?_
      refine ⟨.pointer (some ⟨b1,0,none⟩),by kernel_rfl,by kernel_rfl,by kernel_rfl,by kernel_rfl,fun _ _ _ h=>h,hS,rfl,(fun w' hw=>by go_simp),?_⟩
      simp only [Act.put,setP]
      refine wpM_take1 (i:=4) (by simp only [List.getElem?_toArray,List.getElem?_cons_zero,List.getElem?_cons_succ];rfl) ?_
      refine ⟨.int .i64 i,by kernel_rfl,by kernel_rfl,by kernel_rfl,by kernel_rfl,fun _ _ _ h=>h,hS,rfl,(fun w' hw=>run_loadOp _ _ rfl _ rfl _ (load_cell hw.2.1)),?_⟩
      simp only [Act.put,setP]
      refine wpM_one (i:=5) (by kernel_rfl) (wpOf ?_)
      refine st_call rfl 83 #[.agg (arrB (upTo (q j) i)),.int .i64 i] (by go_simp) (refRuns_calls _ _ _) ?_
      rintro e w5 ⟨v,rfl,hb,hf⟩
      rw [Hcut.out,runsTo_upTo] at hf
      obtain ⟨ra,rn,rc,rfl⟩:=SliceAt.shape hf.now
      replace hL:=hL.callF hb hf
      clear hb hf hS
      refine ⟨_,rfl,fun _=>⟨(hL.cellA).trans rfl,(hL.cellA).trans rfl,hL.range (by (repeat (first|with_reducible exact At.here|with_reducible apply At.there)))⟩,?_⟩
      simp only [Act.put,setP]
      refine wpM_one (i:=6) (by kernel_rfl) (wpOf ?_)
      refine st_lit rfl _ _ _ rfl (litAt1 (.slice ra rn rc) (by simp only [List.map_toArray,List.map_cons,List.map_nil];rfl) inferInstance inferInstance (by simp [go_sem,Value.cells]) (by decide) #[.slice ra rn rc] (by simp [go_sem,litCells,Value.cells]) hL ?_)
      clear hL
      intro b7 w7 hL
      refine ⟨fun _=>⟨(hL.cellA).trans rfl,(hL.cellA).trans rfl,hL.range (by (repeat (first|with_reducible exact At.here|with_reducible apply At.there)))⟩,?_⟩
      simp only [Act.put,setP]
      refine wpM_one (i:=7) (by kernel_rfl) (wpOf ?_)
      refine st_append rfl _ _ _ rfl (.slice sa j sc) (.slice (some ⟨b7,0,none⟩) 1 1) rfl rfl (appendAt inferInstance inferInstance hL _ _ .here _ _ _ (fun r'=>.there .here) rfl (by decide) rfl (by simp [go_sem,Value.oneCell']) (by omega) (by unfold maxLen;omega) (by omega) ?_)
      clear hL
      intro g cap8 w8 hL
      have hS:=(show (fun w':World=>w'.cell? ⟨b3,2,none⟩=some (.slice sa j sc)∧w'.cell? ⟨b1,0,none⟩=some (.int .i64 i)∧w'.rangeAt b4 0 (arrB (upTo (q j) i)).toList) w8 from ⟨(hL.cellA).trans rfl,(hL.cellA).trans rfl,hL.range (by (repeat (first|with_reducible exact At.here|with_reducible apply At.there)))⟩)
      refine ⟨fun _=>hS,?_⟩
      simp only [Act.put,setP]
      refine wpM_take1 (i:=8) (by simp only [List.getElem?_toArray,List.getElem?_cons_zero,List.getElem?_cons_succ];rfl) ?_
      refine ⟨.pointer (some ⟨b3,2,none⟩),by kernel_rfl,by kernel_rfl,by kernel_rfl,by kernel_rfl,fun _ _ _ h=>h,hS,rfl,(fun w' hw=>by go_simp),?_⟩
      simp only [Act.put,setP]
      clear hS
      refine wpM_one (i:=9) (by kernel_rfl) (wpOf ?_)
      refine st_store rfl _ _ _ rfl ⟨b3,2,none⟩ rfl (.slice (some ⟨g,0,none⟩) (j+1) cap8) rfl (storeAt_cell rfl rfl inferInstance hL _ _ _ (by (repeat (first|with_reducible exact Upd.here|with_reducible apply Upd.there))) (by simp) rfl ?_)
      clear hL
      intro w9 hL
      refine ⟨fun h=>absurd rfl h,wpM_done (by kernel_rfl) ?_⟩
      simp only [Act.put]
      go_wp2
      go_roundw
      case rel =>
       refine ⟨j+1,_,xs++[.slice ra rn rc],by omega,by go_num,by rw [List.length_append,Hxs.out];rfl,(hL.drop .here).join fun w' h1 h2 y v hi=>?_⟩
       rw [List.getElem?_append] at hi
       split at hi
       ·exact h2 y v hi
       ·have hij:y=j:=by
         have h3:=(List.getElem?_eq_some_iff.1 hi).1
         have:=Hxs.out
         simp at h3;omega
        rw [hij,←Hxs.out] at hi
        simp at hi
        subst hi
        rw [hij]
        exact h1
      case measure=>simp [intOf];omega
   ·have e:j=H:=by omega
    subst e
    go_wp2_with (first|(with_reducible (clear hL;intro _ hL))|((with_reducible refine wpA_lit rfl _ _ _ rfl ?_);first|refine litA1 hL ?_|refine litA2 hL ?_)|((with_reducible refine goJ rfl ?_);refine goW ?_))
    refine bodyPost_ret (results_row2 inferInstance rfl _ hL b2 rfl _ _ (.there (.there .here)) rfl) rfl ⟨_,ret_tup HE.out.symm,hL.below,?_⟩
    rw [HR.out]
    exact ((hL.settle .here (φ:=fun w'=>(own w.heap.size 115 1 (.slice sa j sc) j xs).ok w') fun _ h=>h).join fun w' h1 h2=>⟨_,rfl,rows_own h1 Hxs.out h2⟩).fresh
theorem cut_start (l:List (Int × Int)) (k:Nat) (f:Int):arrB (inRuns (l.take k))=arrB (ofMid l k f (cutI f)):=by
 refine arrB_congr fun c hc=>?_
 unfold ofMid cutI
 have:(decide (max 0 f≤(c:Int))&&decide ((c:Int)<max 0 (min f 64)))=false:=by
  rw [Bool.eq_false_iff];intro e;simp at e;omega
 rw [this,Bool.or_false]
theorem cut_end (l:List (Int × Int)) (k:Nat) (hk:k<l.length) (i:Int) (h1:cutI (l.getD k (0,0)).1≤i) (h2:cutI (l.getD k (0,0)).2≤i) (h3:i≤max (cutI (l.getD k (0,0)).1) (cutI (l.getD k (0,0)).2)) :
  arrB (ofMid l k (l.getD k (0,0)).1 i)=arrB (inRuns (l.take (k+1))):=by
 refine arrB_congr fun c hc=>?_
 have e:l.getD k (0,0)=l[k]:=by simp [hk]
 rw [List.take_succ_eq_append_getElem hk]
 simp only [ofMid,inRuns,List.any_append,List.any_cons,List.any_nil,Bool.or_false,inRun]
 rw [e] at h1 h2 h3 ⊢
 unfold cutI at h1 h2 h3
 congr 1
 rw [Bool.eq_iff_iff];simp;omega
set_option maxRecDepth 100000 in
set_option maxHeartbeats 1000000 in
theorem refPlaces_calls (w:World) (v:Value) (l:List (Int × Int)) (hv:RunsAt w v l) :
  Calls Tryz.prog 104 #[v] w fun e w'=>e=.returned (.agg (arrB (inRuns l)))∧Below w.heap.size w w':=by
 obtain ⟨a,cap,rfl,hlc,hcm,hel⟩:=hv.parts
 clear hv
 unfold maxLen at hcm
 have Hel:=Lib.hid hel;clear hel
 have hL:=Holds.start w
 obtain ⟨n1,n2,n3,n4⟩:=tok4
 go_enter Tryz.func104,Tryz.ntmps104
 go_wp2_with (first|(with_reducible first|(clear hL n1;intro b1 w1 hL)|(clear hL n2;intro b2 w2 hL)|(clear hL;intro _ hL))|((with_reducible refine goJ rfl ?_);refine goW ?_))
 go_loopw [4] (fun s4 wr=>∃ k:Nat,k≤l.length∧s4=.int .i64 k∧Holds w wr [blk b2 (arrB (inRuns (l.take k))) 131,blk b1 (arrB fun _=>false) 131] [])
  (fun s4 wr=>l.length-(intOf s4).toNat)
 case atStart=>exact ⟨0,by omega,rfl,hL⟩
 case round =>
  clear hL
  obtain ⟨k,hk,rfl,hL⟩:=hrel
  by_cases hlt:k<l.length
  ·obtain ⟨b,o,rfl,hr⟩:=Hel.out k hlt
   have He:=Lib.hid (cut_end l k hlt)
   have Hs:=Lib.hid (cut_start l k (l.getD k (0,0)).1)
   have Ht:=Lib.hid (ofMid_step l k (l.getD k (0,0)).1)
   generalize (l.getD k (0,0)).1=f at *
   generalize (l.getD k (0,0)).2=t at *
   have r0:=hr 0 (.int .i64 f) rfl
   have r1:=hr 1 (.int .i64 t) rfl
   simp only [Nat.add_zero] at r0
   have c1:=cutI_le f
   have c2:=cutI_le t
   have Hcf:=Lib.hid (show cutI f=max 0 (min f 64) by unfold cutI;rfl)
   clear hr
   go_wp2_with (first|(go_at_call 126;(with_reducible refine (rcut_calls _ _).mono ?_);rintro e _ ⟨rfl,rfl⟩)|(with_reducible (clear hL;intro _ hL))|((with_reducible refine goJ rfl ?_);refine goW ?_))
   go_loopw [5] (fun s5 wr=>∃ i:Nat,s5=.int .i64 i∧cutI f≤(i:Int)∧(i:Int)≤max (cutI f) (cutI t) ∧
     Holds w wr [blk b2 (arrB (ofMid l k f i)) 131,blk b1 (arrB fun _=>false) 131] [])
    (fun s5 wr=>(64-intOf s5).toNat)
   case atStart =>
    rw [Hs.out] at hL
    have e:(((cutI f).toNat:Nat):Int)=cutI f:=by omega
    exact ⟨(cutI f).toNat,by rw [e],by omega,by omega,by rw [e];exact hL⟩
   case round =>
    clear hL
    obtain ⟨i,rfl,hi1,hi2,hL⟩:=hrel
    by_cases hit:(i:Int)<cutI t
    ·have hi64:i<64:=by omega
     have hif:max 0 f≤(i:Int):=by have:=Hcf.out;omega
     go_wp2_with (first|(go_at_call 126;(with_reducible refine (rcut_calls _ _).mono ?_);rintro e _ ⟨rfl,rfl⟩)|(with_reducible (clear hL;intro _ hL))|((with_reducible refine goJ rfl ?_);refine goW ?_))
     go_roundw
     case rel =>
      rw [Ht.out i hif] at hL
      exact ⟨i+1,by go_num,by omega,by omega,hL⟩
     case measure=>simp [intOf];omega
    ·rw [He.out i hi1 (by omega) hi2] at hL
     clear hi1 hi2
     go_wp2_with (first|(go_at_call 126;(with_reducible refine (rcut_calls _ _).mono ?_);rintro e _ ⟨rfl,rfl⟩)|(with_reducible (clear hL;intro _ hL))|((with_reducible refine goJ rfl ?_);refine goW ?_))
     go_roundw
     case rel=>exact ⟨k+1,by omega,by go_num,hL⟩
     case measure=>simp [intOf];omega
  ·have e:k=l.length:=by omega
   subst e
   rw [List.take_length] at hL
   go_wp2_with (first|(with_reducible first|(clear hL n1;intro b1 w1 hL)|(clear hL n2;intro b2 w2 hL)|(clear hL;intro _ hL))|((with_reducible refine goJ rfl ?_);refine goW ?_))
   exact bodyPost_ret (results_row inferInstance rfl _ hL b1 rfl _ _ (.there .here) (by rw [arrB_size])) rfl ⟨rfl,hL.below⟩
def refRow (W x0 y0 x1 y1:Int) (j:Nat):List (Int × Int):=if (y0≤(j:Int)∧(j:Int)<y1)∧max x0 0<min x1 W then [(max x0 0,min x1 W)] else []
def refRectReg (W H x0 y0 x1 y1:Int):Reg:=if isSide W&&isSide H then ⟨W,H,(List.range H.toNat).map (refRow W x0 y0 x1 y1)⟩ else noReg
theorem refRow_may {W:Int} (h:isSide W=true) (x0 y0 x1 y1:Int) (j:Nat):mayRuns (refRow W x0 y0 x1 y1 j) W=true:=by
 simp [isSide] at h
 unfold refRow
 split
 ·simp [mayRuns,mayFrom];omega
 ·simp [mayRuns,mayFrom];omega
theorem refRow_norm {W:Int} (h:isSide W=true) (x0 y0 x1 y1:Int) (j:Nat):normRow (rectRow x0 y0 x1 y1 j) W=refRow W x0 y0 x1 y1 j:=by
 rw [←normRow_may (refRow_may h x0 y0 x1 y1 j)]
 refine normRow_congr fun i hi=>?_
 rw [cutI_side h] at hi
 simp [isSide] at h
 rw [inRuns_rect]
 unfold refRow
 split
 ·rename_i hc
  simp only [inRuns,List.any_cons,List.any_nil,Bool.or_false,inRun]
  rw [Bool.eq_iff_iff];simp;omega
 ·rename_i hc
  rw [inRuns_nil,Bool.eq_false_iff]
  intro e
  simp [inRun] at e
  exact hc (by omega)
theorem refRect_eq (W H x0 y0 x1 y1:Int):madeReg W H (rectRow x0 y0 x1 y1)=refRectReg W H x0 y0 x1 y1:=by
 cases h1:isSide W with
 | false=>simp [madeReg,refRectReg,h1]
 | true =>
  cases h2:isSide H with
  | false=>simp [madeReg,refRectReg,h2]
  | true =>
   rw [madeReg_ok h1 h2]
   simp only [refRectReg,h1,h2,Bool.and_self,if_true]
   congr 1
   exact List.map_congr_left fun j _=>refRow_norm h1 _ _ _ _ j
theorem runs_of_blk {w:World} {b:Nat} {f t:Int} {T:TypeId} (h:(blk b #[.int .i64 f,.int .i64 t] T).ok w):RunsAt w (.slice (some ⟨b,0,none⟩) 1 1) [(f,t)] :=
 blk_runs (M:=[blk b #[.int .i64 f,.int .i64 t] T]) (Φ:=[]) (w0:={ w with heap:=#[] }) ⟨⟨rfl,rfl,rfl,by simp,fun k hk=>by simp at hk⟩,fun r hr=>by simp at hr;subst hr;exact h,fun r hr b hb=>by simp,by simp,fun φ hφ=>by cases hφ⟩ .here
set_option maxRecDepth 100000 in
set_option maxHeartbeats 2000000 in
theorem refRect_calls (w:World) (W H x0 y0 x1 y1:Int) :
  Calls Tryz.prog 37 #[.int .i64 W,.int .i64 H,.int .i64 x0,.int .i64 y0,.int .i64 x1,.int .i64 y1] w (RegOut (refRectReg W H x0 y0 x1 y1) (madeErr W H) w):=by
 have hL:=Holds.start w
 cases h1:isSide W with
 | false =>
  have HR:=Lib.hid (show refRectReg W H x0 y0 x1 y1=noReg by simp [refRectReg,h1])
  have HE:=Lib.hid (show madeErr W H=1 by simp [madeErr,h1])
  obtain ⟨n1,n2,n3,n4⟩:=tok4
  go_enter Tryz.func37,Tryz.ntmps37
  go_wp2_with (first|(go_at_call 33;(with_reducible refine (refSide_calls _ _).mono ?_);rintro e _ ⟨rfl,rfl⟩)|(with_reducible first|(clear hL n1;intro b1 w1 hL)|(clear hL;intro _ hL))|((with_reducible refine wpA_lit rfl _ _ _ rfl ?_);first|refine litA1 hL ?_|refine litA2 hL ?_)|((with_reducible refine goJ rfl ?_);refine goW ?_))
  exact bodyPost_ret (results_row2 inferInstance rfl _ hL b1 rfl _ _ .here rfl) rfl ⟨_,ret_tup HE.out.symm,hL.below,by rw [HR.out];exact (hL.triv noReg_at).fresh⟩
 | true =>
  cases h2:isSide H with
  | false =>
   have HR:=Lib.hid (show refRectReg W H x0 y0 x1 y1=noReg by simp [refRectReg,h2])
   have HE:=Lib.hid (show madeErr W H=1 by simp [madeErr,h2])
   obtain ⟨n1,n2,n3,n4⟩:=tok4
   go_enter Tryz.func37,Tryz.ntmps37
   go_wp2_with (first|(go_at_call 33;(with_reducible refine (refSide_calls _ _).mono ?_);rintro e _ ⟨rfl,rfl⟩)|(with_reducible first|(clear hL n1;intro b1 w1 hL)|(clear hL;intro _ hL))|((with_reducible refine wpA_lit rfl _ _ _ rfl ?_);first|refine litA1 hL ?_|refine litA2 hL ?_)|((with_reducible refine goJ rfl ?_);refine goW ?_))
   exact bodyPost_ret (results_row2 inferInstance rfl _ hL b1 rfl _ _ .here rfl) rfl ⟨_,ret_tup HE.out.symm,hL.below,by rw [HR.out];exact (hL.triv noReg_at).fresh⟩
  | true =>
   have HR:=Lib.hid (show refRectReg W H x0 y0 x1 y1=⟨W,H,(List.range H.toNat).map (refRow W x0 y0 x1 y1)⟩ by simp [refRectReg,h1,h2])
   have HE:=Lib.hid (show madeErr W H=0 by simp [madeErr,h1,h2])
   have hH:1≤H∧H≤64:=by simp [isSide] at h2;exact h2
   have hW:1≤W∧W≤64:=by simp [isSide] at h1;exact h1
   obtain ⟨hh1,hh2⟩:=hH
   obtain ⟨hw1,hw2⟩:=hW
   obtain ⟨h,rfl⟩:=Int.eq_ofNat_of_zero_le (show 0≤H by omega)
   obtain ⟨n1,n2,n3,n4,n5,n6⟩:=tok6
   go_enter Tryz.func37,Tryz.ntmps37
   go_wp2_with (first|(go_at_call 33;(with_reducible refine (refSide_calls _ _).mono ?_);rintro e _ ⟨rfl,rfl⟩)|(with_reducible first|(clear hL n1;intro b1 w1 hL)|(clear hL n2;intro b2 w2 hL)|(clear hL n3;intro b3 w3 hL)|(clear hL;intro _ hL))|((with_reducible refine wpA_lit rfl _ _ _ rfl ?_);first|refine litA1 hL ?_|refine litA2 hL ?_)|((with_reducible refine goJ rfl ?_);refine goW ?_))
   go_loopw [15] (fun s15 wr=>∃ (j:Nat) (cs:Array Value),j≤h∧s15=.int .i64 j∧cs.size=h ∧
     Holds w wr [blk b3 #[.int .i64 W,.int .i64 h,.slice (some ⟨b2,0,none⟩) h h] 39,blk b2 cs 115,blk b1 #[.int .i64 0,.int .i64 0,.slice none 0 0] 39]
      [fun w=>∀ i,i<h→∃ v,cs[i]?=some v∧RunsAt w v (if i<j then refRow W x0 y0 x1 y1 i else [])])
    (fun s15 wr=>(h-intOf s15).toNat)
   case atStart=>exact ⟨0,_,by omega,rfl,by simp,hL.triv (fun w i hi=>⟨.slice none 0 0,by simp [hi],by rw [if_neg (by omega)];exact runs_nil w⟩)⟩
   case round =>
    clear hL
    obtain ⟨j,cs,hj,rfl,hcs,hL⟩:=hrel
    by_cases hlt:j<h
    ·by_cases hc:(y0≤(j:Int)∧(j:Int)<y1)∧max x0 0<min x1 W
     ·have Hrow:=Lib.hid (show refRow W x0 y0 x1 y1 j=[(max x0 0,min x1 W)] by simp only [refRow];rw [if_pos hc])
      obtain ⟨⟨g1,g2⟩,g3⟩:=hc
      go_wp2_with (first|(with_reducible first|(clear hL n4;intro b4 w4 hL)|(clear hL;intro _ hL))|((with_reducible refine wpA_lit rfl _ _ _ rfl ?_);first|refine litA1 hL ?_|refine litA2 hL ?_)|((with_reducible refine goJ rfl ?_);refine goW ?_))
      go_roundw
      case rel =>
       refine ⟨j+1,cs.setIfInBounds j (.slice (some ⟨b4,0,none⟩) 1 1),by omega,by go_num,by rw [Array.size_setIfInBounds];exact hcs,(hL.settle .here (φ:=fun w=>RunsAt w (.slice (some ⟨b4,0,none⟩) 1 1) [(max x0 0,min x1 W)]) fun w h=>runs_of_blk h).join fun w' k1 k2 i hi=>?_⟩
       by_cases hij:i=j
       ·subst hij
        exact ⟨_,by rw [Array.getElem?_setIfInBounds,if_pos rfl,if_pos (by rw [hcs];exact hlt)],by rw [if_pos (by omega),Hrow.out];exact k1⟩
       ·obtain ⟨v',e1,e2⟩:=k2 i hi
        refine ⟨v',by rw [Array.getElem?_setIfInBounds,if_neg (fun e=>hij e.symm)];exact e1,?_⟩
        have:i<j+1 ↔ i<j:=by omega
        simp only [this]
        exact e2
      case measure=>simp [intOf];omega
     ·have Hrow:=Lib.hid (show refRow W x0 y0 x1 y1 j=[] by simp only [refRow];rw [if_neg hc])
      rcases (by omega:¬y0≤(j:Int)∨(y0≤(j:Int)∧¬(j:Int)<y1)∨(y0≤(j:Int)∧(j:Int)<y1∧¬max x0 0<min x1 W)) with g1|⟨g1,g2⟩|⟨g1,g2,g3⟩
      all_goals
       clear hc
       go_wp2_with (first|(with_reducible first|(clear hL n4;intro b4 w4 hL)|(clear hL;intro _ hL))|((with_reducible refine wpA_lit rfl _ _ _ rfl ?_);first|refine litA1 hL ?_|refine litA2 hL ?_)|((with_reducible refine goJ rfl ?_);refine goW ?_))
       go_roundw
       case rel =>
        refine ⟨j+1,cs,by omega,by go_num,hcs,hL.map fun w' k2 i hi=>?_⟩
        obtain ⟨v',e1,e2⟩:=k2 i hi
        refine ⟨v',e1,?_⟩
        by_cases hij:i=j
        ·subst hij
         rw [if_neg (by omega)] at e2
         rw [if_pos (by omega),Hrow.out];exact e2
        ·have:i<j+1 ↔ i<j:=by omega
         simp only [this]
         exact e2
       case measure=>simp [intOf];omega
    ·have e:j=h:=by omega
     subst e
     go_wp2_with (first|(with_reducible first|(clear hL n4;intro b4 w4 hL)|(clear hL;intro _ hL))|((with_reducible refine wpA_lit rfl _ _ _ rfl ?_);first|refine litA1 hL ?_|refine litA2 hL ?_)|((with_reducible refine goJ rfl ?_);refine goW ?_))
     refine bodyPost_ret (results_row2 inferInstance rfl _ hL b1 rfl _ _ (.there (.there .here)) rfl) rfl ⟨_,ret_tup HE.out.symm,hL.below,?_⟩
     rw [HR.out]
     refine ((hL.settle (.there .here) (φ:=fun w=>w.heap[b2]?=some (.cells cs 115 (0,0))) fun _ h=>h).join fun w' k1 k2=>?_).fresh
     exact ⟨_,rfl,by simpa using rows_of k1 hcs (by unfold maxLen;omega) (fun i hi=>by obtain ⟨v,e1,e2⟩:=k2 i hi;rw [if_pos hi] at e2;exact ⟨v,e1,e2⟩)⟩
def OnOf (kk:Int) (f:Bool→Bool→Bool):Prop:=∀ x y w,Calls Tryz.prog 117 #[.int .i64 kk,.bool x,.bool y] w fun e w'=>e=.returned (.bool (f x y))∧w=w'
theorem onOf2:OnOf 2 (fun x y=>x&&y):=fun x y w=>by
 cases x <;> cases y
 all_goals
  go_enter Tryz.func117,Tryz.ntmps117
  go_wp2
  go_ret
  exact ⟨rfl,rfl⟩
open Go.RowKit
theorem exContK {G:Prop} {P:Nat→Option Addr→World→Prop} (H:Nat→Option Addr→World→Prop) (h1:(∀ b a w8,H b a w8→P b a w8)→G) (h2:∀ b a w8,H b a w8→P b a w8):G:=h1 h2
theorem may_parts {l:List (Int × Int)} {W:Int} (h:mayFrom (-1) W l=true) {k:Nat} (hk:k<l.length):lastTo (-1) (l.take k)<(l.getD k (0,0)).1∧(l.getD k (0,0)).1<(l.getD k (0,0)).2∧(l.getD k (0,0)).2≤W∧lastTo (-1) (l.take (k+1))=(l.getD k (0,0)).2:=by
 have Ht:l.take (k+1)=l.take k++[l.getD k (0,0)]:=by rw [List.take_succ_eq_append_getElem hk];simp [hk]
 have h2:=h
 rw [←List.take_append_drop (k+1) l,mayFrom_append,Bool.and_eq_true,Ht,mayFrom_append,Bool.and_eq_true] at h2
 have h3:=h2.1.2
 simp only [mayFrom,Bool.and_eq_true,decide_eq_true_iff] at h3
 exact ⟨h3.1,h3.2.1,h3.2.2.1,by rw [Ht,lastTo_append]⟩
set_option maxRecDepth 100000 in
set_option maxHeartbeats 8000000 in
theorem refMayT_calls (w:World) (v:Value) (l:List (Int × Int)) (hv:RunsAt w v l) (W:Int) (hm:mayRuns l W=true) :
  Calls Tryz.prog 116 #[v,.int .i64 W] w fun e w'=>e=.returned (.bool true)∧Below w.heap.size w w':=by
 obtain ⟨a,cap,rfl,hlc,hcm,hel⟩:=hv.parts
 unfold maxLen at hcm
 have hW:0≤W∧W≤64∧mayFrom (-1) W l=true:=by
  unfold mayRuns at hm
  simp only [Bool.and_eq_true,decide_eq_true_iff] at hm
  exact hm
 obtain ⟨hW0,hW1,hf⟩:=hW
 have HP:=Lib.hid (fun k (hk:k<l.length)=>may_parts hf hk)
 have Hel:=Lib.hid hel
 have HZ:=Lib.hid (show lastTo (-1) (l.take 0) = -1 from rfl)
 clear hv hel hm hf
 obtain ⟨n,hn⟩:∃ n,l.length=n:=⟨_,rfl⟩
 rw [hn] at HP Hel hlc ⊢
 clear hn
 have c0:decide (W<0)=false:=by simp;omega
 have c1:decide (64<W)=false:=by simp;omega
 have hL:=Holds.start w
 go_enter Tryz.func116,Tryz.ntmps116
 go_wp2_with ((with_reducible refine goJ rfl ?_);refine goP ?_)
 go_loopw [5,6] (fun s5 s6 wr=>∃ k:Nat,k≤n∧s6=.int .i64 k∧s5=.int .i64 (lastTo (-1) (l.take k))∧Holds w wr [] [])
  (fun s5 s6 wr=>n-(intOf s6).toNat)
 case atStart=>exact ⟨0,by omega,rfl,by rw [HZ.out],hL⟩
 case round =>
  clear hL
  obtain ⟨k,hk,rfl,rfl,hL⟩:=hrel
  by_cases hkt:k<n
  ·obtain ⟨b,o,rfl,hr⟩:=Hel.out k hkt
   obtain ⟨g1,g2,g3,g4⟩:=HP.out k hkt
   have hkb:(k:Int)<(n:Int):=by omega
   have e0:w.cell? ⟨b,o+k*2,none⟩=some (.int .i64 (l.getD k (0,0)).1):=hr 0 _ rfl
   have e1:w.cell? ⟨b,o+k*2+1,none⟩=some (.int .i64 (l.getD k (0,0)).2):=hr 1 _ rfl
   clear hr
   have HT:=Lib.hid g4
   clear g4
   generalize (l.getD k (0,0)).1=f at *
   generalize (l.getD k (0,0)).2=t at *
   generalize lastTo (-1) (l.take k)=z at *
   have d1:decide (f≤z)=false:=by simp;omega
   have d2:decide (t≤f)=false:=by simp;omega
   have d3:decide (W<t)=false:=by simp;omega
   clear g1 g2 g3
   go_wp2_with ((with_reducible refine goJ rfl ?_);refine goP ?_)
   refine wpH_holds (by kernel_rfl) hL fun hS=>?_
   replace hL:=hS
   refine deH 0 hS ?_
   refine deH 1 hS ?_
   refine deH 2 hS ?_
   refine deH 3 hS ?_
   refine dlH 4 ?_ hS (fun w' hw=>?_) ?_;rotate_left;(· refine loadC hw ?_;rfl)
   simp only [Act.put,setP]
   refine deH 5 hS ?_
   refine deH 6 hS ?_
   refine deH 7 hS ?_
   first|(refine stH (i:=8) ?_ hS (fun w' hw=>?_) ?_;rotate_left;(· go_simp;try with_reducible rfl))|refine skH (i:=8) hS ?_
   simp only [Act.put,setP]
   first|(refine stH (i:=9) ?_ hS (fun w' hw=>?_) ?_;rotate_left;(· go_simp;try with_reducible rfl))|refine skH (i:=9) hS ?_
   simp only [Act.put,setP]
   first|(refine stH (i:=10) ?_ hS (fun w' hw=>?_) ?_;rotate_left;(· go_simp;try with_reducible rfl))|refine skH (i:=10) hS ?_
   simp only [Act.put,setP]
   first|(refine stH (i:=11) ?_ hS (fun w' hw=>?_) ?_;rotate_left;(· go_simp;try with_reducible rfl))|refine skH (i:=11) hS ?_
   simp only [Act.put,setP]
   first|(refine dlH 12 ?_ hS (fun w' hw=>?_) ?_;rotate_left;(· refine loadC hw ?_;rfl))|refine skH (i:=12) hS ?_
   simp only [Act.put,setP]
   first|(refine stH (i:=13) ?_ hS (fun w' hw=>?_) ?_;rotate_left;(· go_simp;try with_reducible rfl))|refine skH (i:=13) hS ?_
   simp only [Act.put,setP]
   first|(refine stH (i:=14) ?_ hS (fun w' hw=>?_) ?_;rotate_left;(· go_simp;try with_reducible rfl))|refine skH (i:=14) hS ?_
   simp only [Act.put,setP]
   first|(refine stH (i:=15) ?_ hS (fun w' hw=>?_) ?_;rotate_left;(· go_simp;try with_reducible rfl))|refine skH (i:=15) hS ?_
   simp only [Act.put,setP]
   first|(refine stH (i:=16) ?_ hS (fun w' hw=>?_) ?_;rotate_left;(· go_simp;try with_reducible rfl))|refine skH (i:=16) hS ?_
   simp only [Act.put,setP]
   first|(refine dlH 17 ?_ hS (fun w' hw=>?_) ?_;rotate_left;(· refine loadC hw ?_;rfl))|refine skH (i:=17) hS ?_
   simp only [Act.put,setP]
   first|(refine stH (i:=18) ?_ hS (fun w' hw=>?_) ?_;rotate_left;(· go_simp;try with_reducible rfl))|refine skH (i:=18) hS ?_
   simp only [Act.put,setP]
   refine deH 19 hS ?_
   refine deH 20 hS ?_
   first|(refine stH (i:=21) ?_ hS (fun w' hw=>?_) ?_;rotate_left;(· go_simp;try with_reducible rfl))|refine skH (i:=21) hS ?_
   simp only [Act.put,setP]
   first|(refine stH (i:=22) ?_ hS (fun w' hw=>?_) ?_;rotate_left;(· go_simp;try with_reducible rfl))|refine skH (i:=22) hS ?_
   simp only [Act.put,setP]
   first|(refine stH (i:=23) ?_ hS (fun w' hw=>?_) ?_;rotate_left;(· go_simp;try with_reducible rfl))|refine skH (i:=23) hS ?_
   simp only [Act.put,setP]
   first|(refine stH (i:=24) ?_ hS (fun w' hw=>?_) ?_;rotate_left;(· go_simp;try with_reducible rfl))|refine skH (i:=24) hS ?_
   simp only [Act.put,setP]
   first|(refine dlH 25 ?_ hS (fun w' hw=>?_) ?_;rotate_left;(· refine loadC hw ?_;rfl))|refine skH (i:=25) hS ?_
   simp only [Act.put,setP]
   first|(refine stH (i:=26) ?_ hS (fun w' hw=>?_) ?_;rotate_left;(· go_simp;try with_reducible rfl))|refine skH (i:=26) hS ?_
   simp only [Act.put,setP]
   first|(refine stH (i:=27) ?_ hS (fun w' hw=>?_) ?_;rotate_left;(· go_simp;try with_reducible rfl))|refine skH (i:=27) hS ?_
   simp only [Act.put,setP]
   refine deH 28 hS ?_
   refine wpAnyH_done (by kernel_rfl) ?_ _
   clear hS
   go_wp2_with ((with_reducible refine goJ rfl ?_);refine goP ?_)
   go_roundw
   case rel=>exact ⟨k+1,by omega,by go_num,by rw [HT.out],hL⟩
   case measure=>simp [intOf];omega
  ·have e:k=n:=by omega
   subst e
   go_wp2_with ((with_reducible refine goJ rfl ?_);refine goP ?_)
   go_ret
   exact ⟨rfl,hL.below⟩
theorem rowMay {R:Reg} (h:mayReg R=true) {j:Nat} (hj:j<R.rows.length):mayRuns (R.rows.getD j []) R.W=true:=by
 simp only [mayReg,Bool.and_eq_true,List.all_eq_true] at h
 have:R.rows.getD j []=R.rows[j]:=by simp [hj]
 rw [this]
 exact h.2.2.2 _ (List.getElem_mem _)
set_option maxRecDepth 100000 in
set_option maxHeartbeats 8000000 in
theorem refMayRegT_calls (w:World) (v:Value) (R:Reg) (hv:RegAt w v R) (hm:mayReg R=true):Calls Tryz.prog 75 #[v] w fun e w'=>e=.returned (.bool true)∧Below w.heap.size w w':=by
 obtain ⟨sa,sn,sc,rfl,hsa⟩:=hv.shape
 obtain ⟨a,cap,hs,hlc,hcm,hel⟩:=hsa.parts
 cases hs
 obtain ⟨l1,l2,l3⟩:=mayReg_len hm
 have HSw:=Lib.hid (fun w=>rIsSide_calls R.W w)
 have HSh:=Lib.hid (fun w=>rIsSide_calls R.H w)
 rw [l1] at HSw
 rw [l2] at HSh
 have HM:=Lib.hid (fun j (hj:j<R.rows.length)=>rowMay hm hj)
 have Hel:=Lib.hid hel
 unfold maxLen at hcm
 clear hv hsa hel hm l1 l2
 obtain ⟨W,H,rows⟩:=R
 dsimp only at *
 subst l3
 have hL:=Holds.start w
 have eN:((rows.length:Int) != (rows.length:Int))=false:=by simp
 have n1:True:=trivial
 go_enter Tryz.func75,Tryz.ntmps75
 go_wp2_with (first|(go_at_call 33;(with_reducible first|refine (HSw.out _).mono ?_|refine (HSh.out _).mono ?_);rintro e _ ⟨rfl,rfl⟩)|(with_reducible (clear hL n1;intro b1 w1 hL))|((with_reducible refine goJ rfl ?_);refine goP ?_))
 go_loopw [3] (fun s3 wr=>∃ k:Nat,k≤rows.length∧s3=.int .i64 k∧Holds w wr [blk b1 #[.int .i64 W,.int .i64 (rows.length:Int),.slice sa rows.length sc] 39] [])
  (fun s3 wr=>rows.length-(intOf s3).toNat)
 case atStart=>exact ⟨0,by omega,rfl,hL⟩
 case round =>
  clear hL
  obtain ⟨k,hk,rfl,hL⟩:=hrel
  by_cases hkt:k<rows.length
  ·obtain ⟨b,o,rfl,va,vn,vc,hc,hr⟩:=Hel.out k hkt
   have hkb:(k:Int)<(rows.length:Int):=by omega
   have HMk:=Lib.hid (fun w' (hb:Below w.heap.size w w')=>refMayT_calls w' _ _ (SliceAt.below hr hb) W (HM.out k hkt))
   clear hr
   go_wp2_with ((with_reducible refine goJ rfl ?_);refine goP ?_)
   refine wpH_holds (by kernel_rfl) hL fun hS=>?_
   replace hL:=hS
   refine deH 0 hS ?_
   refine dlH 1 ?_ hS (fun w' hw=>?_) ?_;rotate_left;(· refine loadA hw ?_;rfl)
   simp only [Act.put,setP]
   refine deH 2 hS ?_
   refine deH 3 hS ?_
   refine dlH 4 ?_ hS (fun w' hw=>?_) ?_;rotate_left;(· refine loadC hw ?_;rfl)
   simp only [Act.put,setP]
   refine deH 5 hS ?_
   refine dlH 6 ?_ hS (fun w' hw=>?_) ?_;rotate_left;(· refine loadA hw ?_;rfl)
   simp only [Act.put,setP]
   refine wpH_one (i:=7) (by kernel_rfl) (wpOf ?_)
   refine st_call rfl _ _ ?_ (HMk.out _ hL.below) ?_
   (· go_simp;try with_reducible rfl)
   rintro e _ ⟨rfl,hb⟩
   replace hL:=hL.call hb
   replace hS:=hS.call hb
   clear hb
   refine ⟨_,rfl,hS,?_⟩
   simp only [Act.put,setP]
   refine deH 8 hS ?_
   refine wpAnyH_done (by kernel_rfl) ?_ _
   clear hS
   go_wp2_with ((with_reducible refine goJ rfl ?_);refine goP ?_)
   go_roundw
   case rel=>exact ⟨k+1,by omega,by go_num,hL⟩
   case measure=>simp [intOf];omega
  ·have e:k=rows.length:=by omega
   subst e
   go_wp2_with ((with_reducible refine goJ rfl ?_);refine goP ?_)
   go_ret
   exact ⟨rfl,hL.below⟩
set_option maxRecDepth 100000 in
set_option maxHeartbeats 8000000 in
theorem refTwo_calls (w:World) (va vb:Value) (a b:List (Int × Int)) (ha:RunsAt w va a) (hb:RunsAt w vb b):Calls Tryz.prog 76 #[.int .i64 2,va,vb] w (RunsOut (runsTo (fun i=>inRuns a i&&inRuns b i) 64) w):=by
 have HA:=Lib.hid (fun w' (hw:Below w.heap.size w w')=>refPlaces_calls w' va a (SliceAt.below ha hw))
 have HB:=Lib.hid (fun w' (hw:Below w.heap.size w w')=>refPlaces_calls w' vb b (SliceAt.below hb hw))
 clear ha hb
 have HR:=Lib.hid (fun w p=>refRuns_calls w p 64)
 rw [show (cutI 64).toNat=64 by unfold cutI;omega] at HR
 generalize inRuns a=p at *
 generalize inRuns b=q at *
 have HS:=Lib.hid (fun n=>upTo_set (fun i=>p i&&q i) n)
 have HU:=Lib.hid (runsTo_upTo (fun i=>p i&&q i) 64)
 have HZ:=Lib.hid (show arrB (fun _=>false)=arrB (upTo (fun i=>p i&&q i) 0) from arrB_congr fun c _=>by simp [upTo])
 have hL:=Holds.start w
 obtain ⟨n1,n2,n3⟩:=tok3
 go_enter Tryz.func76,Tryz.ntmps76
 go_wp2_with (first|(go_at_call 104;(with_reducible first|refine (HA.out _ hL.below).mono ?_|refine (HB.out _ hL.below).mono ?_);rintro e _ ⟨rfl,hb⟩;replace hL:=hL.call hb;clear hb)|(with_reducible first|(clear hL n1;intro b1 w1 hL)|(clear hL n2;intro b2 w2 hL)|(clear hL n3;intro b3 w3 hL)|(clear hL;intro _ hL))|((with_reducible refine goJ rfl ?_);refine goP ?_))
 rw [HZ.out] at hL
 go_loopw [10] (fun s10 wr=>∃ i:Nat,i≤64∧s10=.int .i64 i∧Holds w wr [blk b3 (arrB (upTo (fun i=>p i&&q i) i)) 131,blk b2 (arrB q) 131,blk b1 (arrB p) 131] [])
  (fun s10 wr=>(64-intOf s10).toNat)
 case atStart=>exact ⟨0,by omega,rfl,hL⟩
 case round =>
  clear hL
  obtain ⟨i,hi,rfl,hL⟩:=hrel
  by_cases hit:i<64
  ·have HSi:=Lib.hid (HS.out i)
   go_wp2_with (first|(with_reducible first|(clear hL n1;intro b1 w1 hL)|(clear hL n2;intro b2 w2 hL)|(clear hL n3;intro b3 w3 hL)|(clear hL;intro _ _ hL)|(clear hL;intro _ hL))|((with_reducible refine goJ rfl ?_);refine goP ?_))
   refine wpN_holds 10 (by kernel_rfl) hL fun hS=>?_
   replace hL:=hS
   refine deN 0 hS ?_
   refine deN 1 hS ?_
   refine deN 2 hS ?_
   refine deN 3 hS ?_
   refine stN (i:=4) ?_ hS (fun w' hw=>?_) ?_;rotate_left;(· refine run_loadOp _ _ rfl _ rfl _ ?_;refine loadA hw ?_;rfl)
   simp only [Act.put,setP]
   refine deN 5 hS ?_
   refine deN 6 hS ?_
   refine stN (i:=7) ?_ hS (fun w' hw=>?_) ?_;rotate_left;(· refine run_loadOp _ _ rfl _ rfl _ ?_;refine loadA hw ?_;rfl)
   simp only [Act.put,setP]
   refine wpN_one (i:=8) (by kernel_rfl) (wpOf ?_)
   refine st_call rfl _ _ ?_ (onOf2 (p i) (q i) _) ?_
   (· go_simp;try with_reducible rfl)
   rintro e _ ⟨rfl,rfl⟩
   refine ⟨_,rfl,fun _=>hS,?_⟩
   simp only [Act.put,setP]
   refine deN 9 hS ?_
   refine wpN_one (i:=10) (by kernel_rfl) (wpOf ?_)
   clear hS
   refine st_store rfl _ _ _ rfl _ rfl (.bool _) rfl ?_
   first|refine storeA hL ?_|refine storeO hL ?_|refine storeR hL ?_
   clear hL;intro w9 hL
   refine ⟨fun h=>absurd h (by decide),?_⟩
   try simp only [Act.put]
   refine wpN_done (by kernel_rfl) ?_
   rw [HSi.out] at hL
   go_wp2_with (first|(with_reducible first|(clear hL n1;intro b1 w1 hL)|(clear hL n2;intro b2 w2 hL)|(clear hL n3;intro b3 w3 hL)|(clear hL;intro _ _ hL)|(clear hL;intro _ hL))|((with_reducible refine goJ rfl ?_);refine goP ?_))
   go_roundw
   case rel=>exact ⟨i+1,by omega,by go_num,hL⟩
   case measure=>simp [intOf];omega
  ·have e:i=64:=by omega
   subst e
   go_wp2_with (first|(go_at_call 83;(with_reducible refine (HR.out _ _).mono ?_);rintro e _ ⟨v,rfl,hb,hf⟩;rw [HU.out] at hf;replace hL:=hL.callF hb hf;clear hb hf)|((with_reducible refine goJ rfl ?_);refine goP ?_))
   go_ret
   exact hL.out0
open Go.RowKit
theorem rRect_calls {W H:Nat} (hs:Sides W H) (w:World):Calls Tryz.prog 37 #[.int .i64 W,.int .i64 H,.int .i64 0,.int .i64 0,.int .i64 W,.int .i64 H] w (PixOut W H (fun _ _=>true) w) :=
 (refRect_calls w W H 0 0 W H).mono fun _ _ h=>.of h ((refRect_eq W H 0 0 W H).symm.trans (all_pix hs.w0 hs.w1 hs.h0 hs.h1)) (madeErr_pix hs.w0 hs.w1 hs.h0 hs.h1)
theorem ofReg_pixR {W H:Nat} (hs:Sides W H) (P:Nat→Nat→Bool):ofReg (pixMask W H P)=pixReg W H P∧ofErr (pixMask W H P)=0:=by
 unfold ofReg ofErr
 rw [mask_may hs P,if_pos rfl,if_pos rfl]
 refine ⟨?_,rfl⟩
 unfold pixReg
 have e1:(pixMask W H P).W.toNat=W:=Int.toNat_natCast W
 have e2:(pixMask W H P).H.toNat=H:=Int.toNat_natCast H
 rw [e1,e2]
 congr 1
 refine List.map_congr_left fun j hj=>runsTo_congr fun i hi=>?_
 have hj:j<H:=by simpa using hj
 unfold maskQ
 rw [e1,Nat.mul_comm W j,pixMask_get P hj hi]
 cases P j i <;> rfl
theorem rOfP_calls {W H:Nat} (hs:Sides W H) (w:World) (v:Value) (q:Nat→Nat→Bool) (h:MaskAt w v (pixMask W H q)):Calls Tryz.prog 39 #[v] w (PixOut W H q w) :=
 (refOf_calls w v _ h).mono fun _ _ h=>.of h (ofReg_pixR hs q).1 (ofReg_pixR hs q).2
theorem rFill_calls {W H:Nat} (hs:Sides W H) (w:World) (v:Value) (l:List Sg) (hv:SegsAt w v l) (hm:pathMay l=true) (rule:Int) (hr:rule=0∨rule=1):Calls Tryz.prog 38 #[v,.int .i64 rule,.int .i64 W,.int .i64 H] w (MaskOut W H (fillP l rule) w):=rMask_calls hs w v l hv hm rule hr
theorem meet_row {W:Nat} (hW:W≤64) (p q:Nat→Bool):runsTo (fun i=>inRuns (runsTo p W) i&&inRuns (runsTo q W) i) 64=runsTo (fun i=>p i&&q i) W:=by
  rw [runsTo_beyond (n := W) hW (fun i h1 _ => by rw [inRuns_runsTo _ hW]; have : ¬ i < W := by omega
                                                  simp [this])]
  refine runsTo_congr fun i hi=>?_
  rw [inRuns_runsTo _ hW,inRuns_runsTo _ hW]
  simp [hi]
set_option maxRecDepth 100000 in
set_option maxHeartbeats 16000000 in
theorem rTwoReg_calls {W H:Nat} (hs:Sides W H) (w:World) (va vb:Value) (p q:Nat→Nat→Bool) (ha:RegAt w va (pixReg W H p)) (hb:RegAt w vb (pixReg W H q)):Calls Tryz.prog 34 #[.int .i64 2,va,vb] w (PixOut W H (fun j i=>p j i&&q j i) w):=by
 have hpm:=pix_may hs.w0 hs.w1 hs.h0 hs.h1
 have HA:=Lib.hid (fun w' (hw:Below w.heap.size w w')=>refMayRegT_calls w' va _ (ha.below hw) (hpm p))
 have HB:=Lib.hid (fun w' (hw:Below w.heap.size w w')=>refMayRegT_calls w' vb _ (hb.below hw) (hpm q))
 have hl:∀ p,(pixReg W H p).rows.length=H:=fun p=>by unfold pixReg;simp
 obtain ⟨xa,xn,xc,rfl,hsa⟩:=ha.shape
 obtain ⟨a1,cap1,hs1,hlc1,hcm1,hel1⟩:=hsa.parts
 cases hs1
 obtain ⟨ya,yn,yc,rfl,hsb⟩:=hb.shape
 obtain ⟨a2,cap2,hs2,hlc2,hcm2,hel2⟩:=hsb.parts
 cases hs2
 have e1:=hl p
 have e2:=hl q
 rw [e1] at hlc1
 rw [e2] at hlc2
 have HEl:=Lib.hid (fun j (hj:j<H)=>hel1 j (by rw [e1];exact hj))
 have HEr:=Lib.hid (fun j (hj:j<H)=>hel2 j (by rw [e2];exact hj))
 have hp:∀ (p:Nat→Nat→Bool) (j:Nat),j<H→(pixReg W H p).rows.getD j []=runsTo (p j) W:=fun p j hj=>pix_row p hj
 have HT:=Lib.hid (fun j (hj:j<H) w' (va vb:Value) (h1:RunsAt w' va ((pixReg W H p).rows.getD j [])) (h2:RunsAt w' vb ((pixReg W H q).rows.getD j []))=>show Calls Tryz.prog 76 #[.int .i64 2,va,vb] w' (RunsOut (runsTo (fun i=>p j i&&q j i) W) w') from by
  have h3:=refTwo_calls w' va vb _ _ h1 h2
  rw [hp p j hj,hp q j hj,meet_row hs.w1] at h3
  exact h3)
 rw [e1] at HA
 rw [e2] at HB
 rw [e1,e2]
 have hWp:∀ p,(pixReg W H p).W=(W:Int):=fun _=>rfl
 have hHp:∀ p,(pixReg W H p).H=(H:Int):=fun _=>rfl
 simp only [hWp,hHp] at HA HB ⊢
 have HPx:=Lib.hid (show pixReg W H (fun j i=>p j i&&q j i)=⟨W,H,(List.range H).map fun j=>runsTo (fun i=>p j i&&q j i) W⟩ from rfl)
 have eW:((W:Int) != (W:Int))=false:=by simp
 have eH:((H:Int) != (H:Int))=false:=by simp
 have hh0:=hs.h0
 have hh1:=hs.h1
 unfold maxLen at hcm1 hcm2
 unfold PixOut
 generalize pixReg W H (fun j i=>p j i&&q j i)=R at *
 clear hl hp hpm ha hb hsa hsb hel1 hel2 e1 e2 hs hWp hHp
 have hL:=Holds.start w
 obtain ⟨n1,n2,n3,n4⟩:=tok4
 go_enter Tryz.func34,Tryz.ntmps34
 go_wp2_with (first|(go_at_call 75;(with_reducible first|refine (HA.out _ hL.below).mono ?_|refine (HB.out _ hL.below).mono ?_);rintro e _ ⟨rfl,hb⟩;replace hL:=hL.call hb;clear hb)|(with_reducible first|(clear hL n1;intro b1 w1 hL)|(clear hL n2;intro b2 w2 hL)|(clear hL n3;intro b3 w3 hL)|(clear hL n4;intro b4 w4 hL)|(clear hL;intro _ hL))|((with_reducible refine wpA_lit rfl _ _ _ rfl ?_);first|refine litA1 hL ?_|refine litA2 hL ?_|refine litA3 hL ?_|refine litA4 hL ?_|refine litA6 hL ?_)|((with_reducible refine goJ rfl ?_);refine goP ?_))
 go_loopw [9] (fun s9 wr=>∃ (j:Nat) (s:Value) (xs:List Value),j≤H∧s9=.int .i64 j∧xs.length=j∧Holds w wr [own w.heap.size 115 1 s j xs,blk b4 #[.int .i64 W,.int .i64 H,s] 39,blk b3 #[.int .i64 0,.int .i64 0,.slice none 0 0] 39,blk b2 #[.int .i64 W,.int .i64 H,.slice ya H yc] 39,blk b1 #[.int .i64 W,.int .i64 H,.slice xa H xc] 39] [fun w=>∀ i v,xs[i]?=some v→RunsAt w v (runsTo (fun x=>p i x&&q i x) W)])
  (fun s9 wr=>(64-intOf s9).toNat)
 case atStart=>exact ⟨0,.slice none 0 0,[],by omega,rfl,rfl,hL.newOwn.triv (fun _ i v h=>by simp at h)⟩
 case round =>
  clear hL
  obtain ⟨j,s,xs,hj,rfl,hxs,hL⟩:=hrel
  obtain ⟨sa,sc,rfl⟩:=own_slice hL .here
  have Hxs:=Lib.hid hxs;clear hxs
  by_cases hjt:j<H
  ·have hjb:(j:Int)<(H:Int):=by omega
   obtain ⟨ba,oa,rfl,la,ln,lc,hca,hra⟩:=HEl.out j hjt
   obtain ⟨bb,ob,rfl,ma,mn,mc,hcb,hrb⟩:=HEr.out j hjt
   have HTj:=Lib.hid (fun w' (hw:Below w.heap.size w w')=>HT.out j hjt w' _ _ (SliceAt.below hra hw) (SliceAt.below hrb hw))
   clear hra hrb
   generalize hfj:(fun i=>p j i&&q j i)=fj at *
   have HFj:=Lib.hid hfj
   clear hfj
   go_wp2_with (first|(with_reducible (clear hL;intro _ hL))|((with_reducible refine wpA_lit rfl _ _ _ rfl ?_);first|refine litA1 hL ?_|refine litA2 hL ?_|refine litA3 hL ?_|refine litA4 hL ?_|refine litA6 hL ?_)|((with_reducible refine goJ rfl ?_);refine goP ?_))
   replace hL:=hL.drew
   refine wpV_begin (by kernel_rfl) (fun (k':Nat) (w':World)=>k'<17→w'.cell? ⟨b4,2,none⟩=some (.slice sa j sc)∧w'.cell? ⟨b1,2,none⟩=some (.slice (some ⟨ba,oa,none⟩) H xc)∧w'.cell? ⟨b2,2,none⟩=some (.slice (some ⟨bb,ob,none⟩) H yc)∧w'.cell? ⟨ba,oa+j,none⟩=some (.slice la ln lc)∧w'.cell? ⟨bb,ob+j,none⟩=some (.slice ma mn mc)) 17 ?_
   refine deV 0 (fun k' _ _=>⟨(hL.cellA).trans rfl,(hL.cellA).trans rfl,(hL.cellA).trans rfl,hL.old hca,hL.old hcb⟩) ?_
   refine dlV 1 ?_ (fun k' _ _=>⟨(hL.cellA).trans rfl,(hL.cellA).trans rfl,(hL.cellA).trans rfl,hL.old hca,hL.old hcb⟩) (fun w' hw=>?_) ?_;rotate_left;(· (try obtain ⟨hw1,hw2,hw3,hw4,hw5⟩:=hw (by decide));refine loadD ?_;rfl)
   simp only [Act.put,setP]
   refine deV 2 (fun k' _ _=>⟨(hL.cellA).trans rfl,(hL.cellA).trans rfl,(hL.cellA).trans rfl,hL.old hca,hL.old hcb⟩) ?_
   refine deV 3 (fun k' _ _=>⟨(hL.cellA).trans rfl,(hL.cellA).trans rfl,(hL.cellA).trans rfl,hL.old hca,hL.old hcb⟩) ?_
   refine dlV 4 ?_ (fun k' _ _=>⟨(hL.cellA).trans rfl,(hL.cellA).trans rfl,(hL.cellA).trans rfl,hL.old hca,hL.old hcb⟩) (fun w' hw=>?_) ?_;rotate_left;(· (try obtain ⟨hw1,hw2,hw3,hw4,hw5⟩:=hw (by decide));refine loadD ?_;rfl)
   simp only [Act.put,setP]
   refine deV 5 (fun k' _ _=>⟨(hL.cellA).trans rfl,(hL.cellA).trans rfl,(hL.cellA).trans rfl,hL.old hca,hL.old hcb⟩) ?_
   refine deV 6 (fun k' _ _=>⟨(hL.cellA).trans rfl,(hL.cellA).trans rfl,(hL.cellA).trans rfl,hL.old hca,hL.old hcb⟩) ?_
   refine dlV 7 ?_ (fun k' _ _=>⟨(hL.cellA).trans rfl,(hL.cellA).trans rfl,(hL.cellA).trans rfl,hL.old hca,hL.old hcb⟩) (fun w' hw=>?_) ?_;rotate_left;(· (try obtain ⟨hw1,hw2,hw3,hw4,hw5⟩:=hw (by decide));refine loadD ?_;rfl)
   simp only [Act.put,setP]
   refine deV 8 (fun k' _ _=>⟨(hL.cellA).trans rfl,(hL.cellA).trans rfl,(hL.cellA).trans rfl,hL.old hca,hL.old hcb⟩) ?_
   refine dlV 9 ?_ (fun k' _ _=>⟨(hL.cellA).trans rfl,(hL.cellA).trans rfl,(hL.cellA).trans rfl,hL.old hca,hL.old hcb⟩) (fun w' hw=>?_) ?_;rotate_left;(· (try obtain ⟨hw1,hw2,hw3,hw4,hw5⟩:=hw (by decide));refine loadD ?_;rfl)
   simp only [Act.put,setP]
   refine deV 10 (fun k' _ _=>⟨(hL.cellA).trans rfl,(hL.cellA).trans rfl,(hL.cellA).trans rfl,hL.old hca,hL.old hcb⟩) ?_
   refine deV 11 (fun k' _ _=>⟨(hL.cellA).trans rfl,(hL.cellA).trans rfl,(hL.cellA).trans rfl,hL.old hca,hL.old hcb⟩) ?_
   refine dlV 12 ?_ (fun k' _ _=>⟨(hL.cellA).trans rfl,(hL.cellA).trans rfl,(hL.cellA).trans rfl,hL.old hca,hL.old hcb⟩) (fun w' hw=>?_) ?_;rotate_left;(· (try obtain ⟨hw1,hw2,hw3,hw4,hw5⟩:=hw (by decide));refine loadD ?_;rfl)
   simp only [Act.put,setP]
   refine wpV_one (i:=13) (by kernel_rfl) (wpOf ?_)
   refine st_call rfl _ _ ?_ (HTj.out _ hL.below) ?_
   (· go_simp;try with_reducible rfl)
   rintro e w5 ⟨v,rfl,hb,hf⟩
   obtain ⟨ra,rn,rc,rfl⟩:=SliceAt.shape hf.now
   replace hL:=hL.callF hb hf
   clear hb hf
   refine ⟨_,rfl,fun k' _ _=>⟨(hL.cellA).trans rfl,(hL.cellA).trans rfl,(hL.cellA).trans rfl,hL.old hca,hL.old hcb⟩,?_⟩
   simp only [Act.put,setP]
   refine wpV_one (i:=14) (by kernel_rfl) (wpOf ?_)
   refine st_lit rfl _ _ _ rfl (litA1 hL ?_)
   intro b60 w9 hL2
   clear hL;have hL:=hL2;clear hL2
   refine ⟨fun k' _ _=>⟨(hL.cellA).trans rfl,(hL.cellA).trans rfl,(hL.cellA).trans rfl,hL.old hca,hL.old hcb⟩,?_⟩
   simp only [Act.put,setP]
   refine wpV_one (i:=15) (by kernel_rfl) (wpOf ?_)
   refine st_append rfl _ _ _ rfl (.slice sa j sc) (.slice (some ⟨b60,0,none⟩) 1 1) rfl rfl (appendA hL ?_)
   intro g61 c61 w9 hL2
   clear hL;have hL:=hL2;clear hL2;try dsimp only at hL
   refine ⟨fun k' _ _=>⟨(hL.cellA).trans rfl,(hL.cellA).trans rfl,(hL.cellA).trans rfl,hL.old hca,hL.old hcb⟩,?_⟩
   simp only [Act.put,setP]
   refine deV 16 (fun k' _ _=>⟨(hL.cellA).trans rfl,(hL.cellA).trans rfl,(hL.cellA).trans rfl,hL.old hca,hL.old hcb⟩) ?_
   refine wpV_one (i:=17) (by kernel_rfl) (wpOf ?_)
   refine st_store rfl _ _ _ rfl _ rfl (.slice _ _ _) rfl ?_
   first|refine storeA hL ?_|refine storeO hL ?_|refine storeR hL ?_
   clear hL;intro w9 hL
   refine ⟨fun k9 hk9 hm9=>?_,?_⟩
   (· exact absurd hm9 (pinned_off 17 17 hk9 (by kernel_rfl) (by decide) (by kernel_rfl)))
   try simp only [Act.put]
   refine wpV_done (by kernel_rfl) ?_
   go_wp2_with (first|(with_reducible (clear hL;intro _ hL))|((with_reducible refine wpA_lit rfl _ _ _ rfl ?_);first|refine litA1 hL ?_|refine litA2 hL ?_|refine litA3 hL ?_|refine litA4 hL ?_|refine litA6 hL ?_)|((with_reducible refine goJ rfl ?_);refine goP ?_))
   go_roundw
   case rel =>
    refine ⟨j+1,_,xs++[.slice ra rn rc],by omega,by go_num,by rw [List.length_append,Hxs.out];rfl,hL.join fun w' h1 h2 y v hi=>?_⟩
    rw [List.getElem?_append] at hi
    split at hi
    ·exact h2 y v hi
    ·have hij:y=j:=by
      have h3:=(List.getElem?_eq_some_iff.1 hi).1
      have:=Hxs.out
      simp at h3;omega
     rw [hij,←Hxs.out] at hi
     simp at hi
     subst hi
     rw [hij]
     rw [HFj.out]
     exact h1
   case measure=>simp [intOf];omega
  ·have e:j=H:=by omega
   subst e
   go_wp2_with (first|(with_reducible (clear hL;intro _ hL))|((with_reducible refine wpA_lit rfl _ _ _ rfl ?_);first|refine litA1 hL ?_|refine litA2 hL ?_|refine litA3 hL ?_|refine litA4 hL ?_|refine litA6 hL ?_)|((with_reducible refine goJ rfl ?_);refine goP ?_))
   refine bodyPost_ret (results_row2 inferInstance rfl _ hL b3 rfl _ _ (.there (.there .here)) rfl) rfl ⟨_,_,_,rfl,hL.below,?_⟩
   rw [HPx.out]
   exact ((hL.settle .here (φ:=fun w'=>(own w.heap.size 115 1 (.slice sa j sc) j xs).ok w') fun _ h=>h).join fun w' h1 h2=>⟨_,rfl,rows_own h1 Hxs.out h2⟩).fresh
open Go.RowKit
set_option maxRecDepth 100000 in
set_option maxHeartbeats 16000000 in
theorem rfClips_calls {W H:Nat} (hs:Sides W H) (w:World) (v:Value) (l:List Clp) (hv:ClpsAt w v l) (hm:mayClips l=true):Calls Tryz.prog 14 #[v,.int .i64 W,.int .i64 H] w (PixOut W H (clipsP l) w):=by
 have hv':=hv
 obtain ⟨a,cap,rfl,hlc,hcm,_⟩:=hv
 unfold maxLen at hcm
 have HC:=Lib.hid (fun w' (hb:Below w.heap.size w w')=>rClips_calls l a cap w' (hv'.below hb))
 rw [hm] at HC
 have HW:=Lib.hid (fun w=>rIsSide_calls (W:Int) w)
 have HH:=Lib.hid (fun w=>rIsSide_calls (H:Int) w)
 rw [side_nat hs.w0 hs.w1] at HW
 rw [side_nat hs.h0 hs.h1] at HH
 have HA:=Lib.hid (fun w=>rRect_calls (W:=W) (H:=H) hs w)
 have HG:=Lib.hid (fun k (hk:k<l.length)=>ClpsAt.get hv' hk)
 have HF:=Lib.hid (fun k (hk:k<l.length) w' (hb:Below w.heap.size w w') v' (h:SegsAt w v' (l.getD k default).path)=>rFill_calls hs w' v' _ (SliceAt.below h hb) (fillP_rule hm hk).1 (l.getD k default).rule (fillP_rule hm hk).2)
 have HO:=Lib.hid (fun w' v q (h:MaskF v (pixMask W H q) w')=>rOfP_calls hs w' v q h)
 have HM:=Lib.hid (fun w' (v u:Value) (p q:Nat→Nat→Bool) (h:RegAt w' v (pixReg W H p)) (k:RegAt w' u (pixReg W H q))=>rTwoReg_calls hs w' v u p q h k)
 have HT:=Lib.hid (fun k (hk:k<l.length)=>show (fun (j x:Nat)=>clipsP (l.take k) j x&&fillP (l.getD k default).path (l.getD k default).rule j x)=clipsP (l.take (k+1)) from by funext j x;rw [clipsP_take l k hk])
 have HT0:=Lib.hid (show (fun (_ _:Nat)=>true)=clipsP (l.take 0) from by funext j x;rfl)
 have HT9:=Lib.hid (show clipsP (l.take l.length)=clipsP l from by rw [List.take_length])
 clear hv' hs hm
 generalize clipsP l=cl at *
 obtain ⟨n,hn⟩:∃ n,l.length=n:=⟨_,rfl⟩
 generalize l.length=n' at *
 subst hn
 have hL:=Holds.start w
 obtain ⟨n1,n2⟩:=tok2
 go_enter Tryz.func14,Tryz.ntmps14
 go_wp2_with (first|(go_at_call 36;(with_reducible refine (HC.out _ hL.below).mono ?_);rintro e _ ⟨rfl,hb⟩;replace hL:=hL.call hb;clear hb)|(go_at_call 33;(with_reducible first|refine (HW.out _).mono ?_|refine (HH.out _).mono ?_);rintro e _ ⟨rfl,rfl⟩)|(go_at_call 37;(with_reducible refine (HA.out _).mono ?_);rintro e _ ⟨sa,sn,sc,rfl,hb,hf⟩;replace hL:=hL.callF hb hf;clear hb hf)|(with_reducible first|(clear hL n1;intro b1 w1 hL)|(clear hL n2;intro b2 w2 hL)|(clear hL;intro _ hL))|((with_reducible refine goJ rfl ?_);refine goP ?_))
 rw [HT0.out] at hL
 go_loopw [10] (fun s10 wr=>∃ (k:Nat) (sa:Option Addr) (sn sc:Nat),k≤n'∧s10=.int .i64 k∧Holds w wr [blk b2 #[.int .i64 W,.int .i64 H,.slice sa sn sc] 39,blk b1 #[.int .i64 0,.int .i64 0,.slice none 0 0] 39] [RegE W H sa sn sc (clipsP (l.take k))])
  (fun s10 wr=>n'-(intOf s10).toNat)
 case atStart=>exact ⟨0,sa,sn,sc,by omega,rfl,hL⟩
 case round =>
  clear hL
  obtain ⟨k,sa,sn,sc,hk,rfl,hL⟩:=hrel
  by_cases hkt:k<n'
  ·obtain ⟨b,o,pa,pc,rfl,hr,hsg,hp1,hp2⟩:=HG.out k hkt
   have hkb:(k:Int)<(n':Int):=by omega
   have e0:w.cell? ⟨b,o+k*2,none⟩=some (.slice pa (l.getD k default).path.length pc):=hr 0 _ rfl
   have e1:w.cell? ⟨b,o+k*2+1,none⟩=some (.int .i64 (l.getD k default).rule):=hr 1 _ rfl
   clear hr
   have HFk:=Lib.hid (fun w' (hb:Below w.heap.size w w')=>HF.out k hkt w' hb _ hsg)
   have HTk:=Lib.hid (HT.out k hkt)
   clear hsg
   unfold maxLen at hp1
   generalize hcn:clipsP (l.take (k+1))=cn at *
   have HCn:=Lib.hid hcn
   clear hcn
   generalize clipsP (l.take k)=ck at *
   generalize (l.getD k default)=c at *
   obtain ⟨path,rule⟩:=c
   dsimp only at *
   generalize fillP path rule=fp at *
   generalize path.length=pn at *
   obtain ⟨n1,n2,n3,n4⟩:=tok4
   clear n1 n2
   go_wp2_with (first|(with_reducible (clear hL;intro _ hL))|((with_reducible refine goJ rfl ?_);refine goP ?_))
   apply exContK (fun b3 ma w8=>Holds w w8 [blk b3 #[.int .i64 W,.int .i64 H,.slice ma (W*H) (W*H)] 86,blk b2 #[.int .i64 W,.int .i64 H,.slice sa sn sc] 39,blk b1 #[.int .i64 0,.int .i64 0,.slice none 0 0] 39] [MaskF (.agg #[.int .i64 W,.int .i64 H,.slice ma (W*H) (W*H)]) (pixMask W H fp),RegE W H sa sn sc ck])
   ·intro hC
    replace hL:=hL.drew
    refine wpV_begin (by kernel_rfl) (fun (k':Nat) (w':World)=>k'<15→∃ M9 F9,Holds w w' M9 F9) 17 ?_
    refine deV 0 (fun k' _ _=>⟨_,_,hL⟩) ?_
    refine deV 1 (fun k' _ _=>⟨_,_,hL⟩) ?_
    refine deV 2 (fun k' _ _=>⟨_,_,hL⟩) ?_
    refine deV 3 (fun k' _ _=>⟨_,_,hL⟩) ?_
    refine dlV 4 ?_ (fun k' _ _=>⟨_,_,hL⟩) (fun w' hw=>?_) ?_;rotate_left;(· (try replace hw:=hw (by decide));(try obtain ⟨M9,F9,hw⟩:=hw);refine loadC hw ?_;rfl)
    simp only [Act.put,setP]
    refine deV 5 (fun k' _ _=>⟨_,_,hL⟩) ?_
    refine deV 6 (fun k' _ _=>⟨_,_,hL⟩) ?_
    refine deV 7 (fun k' _ _=>⟨_,_,hL⟩) ?_
    refine deV 8 (fun k' _ _=>⟨_,_,hL⟩) ?_
    refine dlV 9 ?_ (fun k' _ _=>⟨_,_,hL⟩) (fun w' hw=>?_) ?_;rotate_left;(· (try replace hw:=hw (by decide));(try obtain ⟨M9,F9,hw⟩:=hw);refine loadC hw ?_;rfl)
    simp only [Act.put,setP]
    refine deV 10 (fun k' _ _=>⟨_,_,hL⟩) ?_
    refine deV 11 (fun k' _ _=>⟨_,_,hL⟩) ?_
    refine wpV_two (i:=12) (j:=16) (by kernel_rfl) (wpOf ?_) (wpOf ?_)
    ·refine st_call rfl _ _ ?_ (HFk.out _ hL.below) ?_
     (· go_simp;try with_reducible rfl)
     rintro e _ ⟨ma,rfl,hb,hf⟩
     replace hL:=hL.callF hb hf
     clear hb hf
     refine ⟨_,rfl,fun k' _ _=>⟨_,_,hL⟩,?_⟩
     simp only [Act.put,setP]
     refine deV 13 (fun k' _ _=>⟨_,_,hL⟩) ?_
     refine deV 14 (fun k' _ _=>⟨_,_,hL⟩) ?_
     refine deV 15 (fun k' _ _=>⟨_,_,hL⟩) ?_
     refine wpV_one (i:=16) (by kernel_rfl) (wpOf ?_)
     refine st_alloc hL ?_
     intro b3 w9 hb hL2
     clear hb hL
     have hL:=hL2;clear hL2
     refine ⟨fun k' _ _=>⟨_,_,hL⟩,?_⟩
     simp only [Act.put,setP]
     refine wpV_one (i:=17) (by kernel_rfl) (wpOf ?_)
     refine st_store rfl _ _ _ rfl _ rfl (.agg _) rfl ?_
     first|refine storeA hL ?_|refine storeO hL ?_|refine storeR hL ?_
     clear hL;intro w9 hL
     refine ⟨fun k9 hk9 hm9=>?_,?_⟩
     (· exact absurd hm9 (pinned_off 17 15 hk9 (by kernel_rfl) (by decide) (by kernel_rfl)))
     try simp only [Act.put]
     refine wpV_one (i:=18) (by kernel_rfl) (wpOf ?_)
     refine st_easy rfl ?_ ?_ ?_;rotate_left;(· go_simp;try with_reducible rfl)
     refine ⟨fun k9 hk9 hm9=>?_,?_⟩
     (· exact absurd hm9 (pinned_off 17 15 hk9 (by kernel_rfl) (by decide) (by kernel_rfl)))
     simp only [Act.put,setP]
     refine wpV_done (by kernel_rfl) ?_
     exact hC b3 ma _ hL
    ·refine st_alloc hL ?_
     intro b3 w9 hb hL2
     clear hb hL
     have hL:=hL2;clear hL2
     refine ⟨fun k' _ _=>⟨_,_,hL⟩,?_⟩
     simp only [Act.put,setP]
     refine wpV_one (i:=12) (by kernel_rfl) (wpOf ?_)
     refine st_call rfl _ _ ?_ (HFk.out _ hL.below) ?_
     (· go_simp;try with_reducible rfl)
     rintro e _ ⟨ma,rfl,hb,hf⟩
     replace hL:=hL.callF hb hf
     clear hb hf
     refine ⟨_,rfl,fun k' _ _=>⟨_,_,hL⟩,?_⟩
     simp only [Act.put,setP]
     refine deV 13 (fun k' _ _=>⟨_,_,hL⟩) ?_
     refine deV 14 (fun k' _ _=>⟨_,_,hL⟩) ?_
     refine deV 15 (fun k' _ _=>⟨_,_,hL⟩) ?_
     refine wpV_one (i:=17) (by kernel_rfl) (wpOf ?_)
     refine st_store rfl _ _ _ rfl _ rfl (.agg _) rfl ?_
     first|refine storeA hL ?_|refine storeO hL ?_|refine storeR hL ?_
     clear hL;intro w9 hL
     refine ⟨fun k9 hk9 hm9=>?_,?_⟩
     (· exact absurd hm9 (pinned_off 17 15 hk9 (by kernel_rfl) (by decide) (by kernel_rfl)))
     try simp only [Act.put]
     refine wpV_one (i:=18) (by kernel_rfl) (wpOf ?_)
     refine st_easy rfl ?_ ?_ ?_;rotate_left;(· go_simp;try with_reducible rfl)
     refine ⟨fun k9 hk9 hm9=>?_,?_⟩
     (· exact absurd hm9 (pinned_off 17 15 hk9 (by kernel_rfl) (by decide) (by kernel_rfl)))
     simp only [Act.put,setP]
     refine wpV_done (by kernel_rfl) ?_
     exact hC b3 ma _ hL
   intro b3 ma w8 hL
   clear n3
   go_wp2_with (first|(go_at_call 39;(with_reducible refine (HO.out _ _ _ hL.fact0).mono ?_);rintro e _ ⟨ra,rn,rc,rfl,hb,hf⟩;replace hL:=hL.callF hb hf;clear hb hf)|(with_reducible first|(clear hL n4;intro b4 w4 hL)|(clear hL;intro _ hL))|((with_reducible refine goJ rfl ?_);refine goP ?_))
   have hA1:RegAt _ (.agg #[.int .i64 W,.int .i64 H,.slice sa sn sc]) (pixReg W H ck):=hL.fact2
   have hA2:RegAt _ (.agg #[.int .i64 W,.int .i64 H,.slice ra rn rc]) (pixReg W H fp):=hL.fact0
   have Hm:=Lib.hid (HM.out _ _ _ _ _ hA1 hA2)
   clear hA1 hA2
   rw [HTk.out] at Hm
   go_wp2_with (first|(go_at_call 34;(with_reducible refine Hm.out.mono ?_);rintro e _ ⟨ta,tn,tc,rfl,hb,hf⟩;replace hL:=hL.callF hb hf;clear hb hf)|(with_reducible (clear hL;intro _ hL))|((with_reducible refine goJ rfl ?_);refine goP ?_))
   go_roundw
   case rel=>exact ⟨k+1,ta,tn,tc,by omega,by go_num,by rw [HCn.out];exact (((((hL.drop .here).drop .here).swap).forget.swap).forget.swap).forget⟩
   case measure=>simp [intOf];omega
  ·have e:k=n':=by omega
   subst e
   rw [HT9.out] at hL
   go_wp2_with (first|(with_reducible (clear hL;intro _ hL))|((with_reducible refine goJ rfl ?_);refine goP ?_))
   exact bodyPost_ret (results_row2 inferInstance rfl _ hL b1 rfl _ _ (.there .here) rfl) rfl ⟨sa,sn,sc,rfl,hL.below,hL.fresh⟩
end Go.Proofs.YtmnoeoecjfhhbaaGreat
