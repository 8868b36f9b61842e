/- Package tympanref43: Band. -/
import Derived.Test.YtmnoeoecjfhhbaaGreatRf9
import Derived.Test.YtmnoeoecjfhhbaaGreatRf8
import Derived.Test.YtmnoeoecjfhhbaaGreatRfL
namespace Go.Proofs.YtmnoeoecjfhhbaaGreat
open Go.RowKit
theorem range_part {w:World} {b o:Nat} {l m:List Value} {k:Nat} (h:w.rangeAt b o l) (e:(l.drop k).take m.length=m):w.rangeAt b (o+k) m:=fun j v hj=>by
 have hjm:j<m.length:=(List.getElem?_eq_some_iff.1 hj).1
 rw [←e,List.getElem?_take_of_lt hjm,List.getElem?_drop] at hj
 have:=h (k+j) v hj
 rwa [←Nat.add_assoc] at this
set_option maxRecDepth 100000 in
set_option maxHeartbeats 32000000 in
theorem rfPaint_calls (w:World) (v:Value) (l:List Itm) (hv:ItmsAt w v l) (hn8:l.length≤8) (Wi Hi:Int):Calls Tryz.prog 24 #[v,.int .i64 Wi,.int .i64 Hi] w (PaintOut l Wi Hi w):=by
 have hv':=hv
 obtain ⟨a,cap,rfl,hlc,hcm,_⟩:=hv
 unfold maxLen at hcm
 have HG:=Lib.hid (fun k (hk:k<l.length)=>ItmsAt.get hv' hk)
 have HE1:=Lib.hid (fun k (hk:k<l.length)=>err_item (Wi:=Wi) (Hi:=Hi) (k:=k) hk)
 have HE2:=Lib.hid (fun h=>err_side (l:=l) (Wi:=Wi) (Hi:=Hi) h)
 have HE3:=Lib.hid (fun h=>err_rest (l:=l) (Wi:=Wi) (Hi:=Hi) h)
 have HW0:=Lib.hid (show workL (l.take 0)=0 from rfl)
 have HW9:=Lib.hid (show workL (l.take l.length)=workL l from by rw [List.take_length])
 have HWn:=Lib.hid (fun k hk=>workL_take l k hk)
 have HPd:=Lib.hid (fun W k (h:∀ i,i<l.length→mayItm (l.getD i default)=true)=>paintL_bd (W:=W) (l.take k) fun i hi=>by
  obtain ⟨j,hj,rfl⟩:=List.getElem_of_mem (List.mem_of_mem_take hi)
  have h1:=h j hj
  have h2:=(ItmsAt.get hv' hj)
  obtain ⟨_,_,_,_,_,_,_,_,_,_,_,_,_,ho⟩:=h2
  rw [getD_in _ hj] at h1 ho
  exact ⟨h1,ho⟩)
 have HPn:=Lib.hid (fun W k (hk:k<l.length)=>paintL_take W l k hk)
 have HP0:=Lib.hid (fun W=>show paintL W (l.take 0)=fun _=>255 from rfl)
 have HP9:=Lib.hid (fun W=>show paintL W (l.take l.length)=paintL W l from by rw [List.take_length])
 clear hv'
 unfold PaintOut
 generalize paintErr l Wi Hi=E at *
 generalize hWk:(fun k=>workL (l.take k))=Wk at *
 have hWk2:∀ k,workL (l.take k)=Wk k:=fun k=>by rw [←hWk]
 simp only [hWk2] at HW0 HW9 HWn
 clear hWk hWk2
 generalize workL l=wall at *
 generalize l.length=n at *
 have hL:=Holds.start w
 have n1:True:=trivial
 go_enter Tryz.func24,Tryz.ntmps24
 go_wp2_with (first|(with_reducible (clear hL n1;intro b1 w1 hL))|((with_reducible refine goJ rfl ?_);refine goP ?_))
 go_loopw [8,9] (fun s8 s9 wr=>∃ k:Nat,k≤n∧s9=.int .i64 k∧s8=.int .i64 (Wk k)∧(0≤Wk k∧Wk k≤10000*k)∧(∀ i,i<k→mayItm (l.getD i default)=true)∧Holds w wr [blk b1 #[.int .i64 0,.int .i64 0,.slice none 0 0] 53] [])
  (fun s8 s9 wr=>n-(intOf s9).toNat)
 case atStart=>exact ⟨0,by omega,rfl,by rw [HW0.out],by rw [HW0.out];omega,fun i hi=>absurd hi (by omega),hL⟩
 case round =>
  clear hL
  obtain ⟨k,hk,rfl,rfl,hwb,hall,hL⟩:=hrel
  by_cases hkt:k<n
  ·obtain ⟨bi,oi,pa,pc,ca,cc,rfl,hr,hI,hp2,hp1,hc2,hc1,_⟩:=HG.out k hkt
   have hkb:(k:Int)<(n:Int):=by omega
   have HEk:=Lib.hid (HE1.out k hkt)
   have HYk:=Lib.hid (fun w' (hb:Below w.heap.size w w')=>rfMay_calls w' _ _ (hI.below hb))
   have HWk:=Lib.hid (fun (hm:mayItm (l.getD k default)=true) w' (hb:Below w.heap.size w w')=>rWork_calls w' _ _ (hI.below hb) (by have:=(mayItm_len hm).1;omega) (by have:=(mayItm_len hm).2.1;omega) (fun c hc=>by have:=(mayItm_len hm).2.2 c hc;omega))
   have HSk:=Lib.hid (show mayItm (l.getD k default)=true→∀ i,i<k+1→mayItm (l.getD i default)=true from fun h i hi=>by
    rcases (by omega:i<k∨i=k) with h2|rfl
    ·exact hall i h2
    ·exact h)
   have hwn:=HWn.out k hkt
   have hip:=workI_pos (l.getD k default)
   have hib:mayItm (l.getD k default)=true→workI (l.getD k default)≤10000:=fun hm=>workI_le hm
   have Hwn:=Lib.hid hwn
   clear hI hall hwn
   unfold maxLen at hp2 hc2
   generalize mayItm (l.getD k default)=bm at *
   generalize workI (l.getD k default)=wi at *
   generalize (l.getD k default)=it at *
   obtain ⟨kind,path,rule,⟨wd,cp,join⟩,⟨iw,ih,bits,data⟩,⟨a,b,c,d,e,f⟩,⟨kr,kg,kb,ka⟩,clips⟩:=it
   unfold itmC at hr
   unfold itmV at HYk HWk
   dsimp only at *
   generalize path.length=pn at *
   generalize clips.length=cn at *
   generalize hwk2:Wk (k+1)=wk2 at *
   have HWk3:=Lib.hid hwk2
   clear hwk2
   generalize Wk k=wk at *
   cases bm with
   | false =>
    have HF:=Lib.hid (HEk.out rfl)
    go_wp2_with (first|(go_at_call 19;(with_reducible refine (HYk.out _ hL.below).mono ?_);rintro e _ ⟨rfl,hb⟩;replace hL:=hL.call hb;clear hb)|(with_reducible (clear hL;intro _ hL))|((with_reducible refine goJ rfl ?_);refine goP ?_))
    exact bodyPost_ret (results_row2 inferInstance rfl _ hL b1 rfl _ _ .here rfl) rfl ⟨fun h0=>absurd (HF.out.symm.trans h0) (by decide),fun _=>⟨by rw [HF.out];rfl,hL.below⟩⟩
   | true =>
    have HWk2:=Lib.hid (HWk.out rfl)
    have HF:=Lib.hid (HSk.out rfl)
    have hib2:=hib rfl
    clear HWk HSk hib
    have hws:IntKind.i64.wrap (wk+wi)=wk+wi:=wrapS (by omega) (by omega)
    go_wp2_with (first|(go_at_call 19;(with_reducible refine (HYk.out _ hL.below).mono ?_);rintro e _ ⟨rfl,hb⟩;replace hL:=hL.call hb;clear hb)|(go_at_call 21;(with_reducible refine (HWk2.out _ hL.below).mono ?_);rintro e _ ⟨rfl,hb⟩;replace hL:=hL.call hb;clear hb)|((with_reducible refine goJ rfl ?_);refine goP ?_))
    go_roundw
    case rel=>exact ⟨k+1,by omega,by go_num,by rw [HWk3.out,Hwn.out],by rw [HWk3.out,Hwn.out];omega,HF.out,hL⟩
    case measure=>simp [intOf];omega
  ·have e:k=n:=by omega
   subst e
   have Hall:=Lib.hid hall
   rw [HW9.out] at hwb ⊢
   cases hsd:(isSide Wi&&isSide Hi) with
   | false =>
    have HF:=Lib.hid (HE2.out hall hsd)
    have HNo:=Lib.hid (fun w=>rNew_no w Wi Hi hsd)
    clear hall hsd
    obtain ⟨n1,n2⟩:=tok2
    clear n1
    go_wp2_with (first|(go_at_call 64;(with_reducible refine (HNo.out _).mono ?_);rintro e _ ⟨rfl,hb⟩;replace hL:=hL.call hb;clear hb)|(with_reducible first|(clear hL n2;intro b2 w2 hL)|(clear hL;intro _ hL))|((with_reducible refine goJ rfl ?_);refine goP ?_))
    exact bodyPost_ret (results_row2 inferInstance rfl _ hL b1 rfl _ _ (.there .here) rfl) rfl ⟨fun h0=>absurd (HF.out.symm.trans h0) (by decide),fun _=>⟨by rw [HF.out];rfl,hL.below⟩⟩
   | true =>
    have HF:=Lib.hid (HE3.out hall hsd)
    rw [Bool.and_eq_true] at hsd
    obtain ⟨g1,g2⟩:=hsd
    unfold isSide at g1 g2
    simp only [Bool.and_eq_true,decide_eq_true_iff] at g1 g2
    obtain ⟨W,rfl⟩:=Int.eq_ofNat_of_zero_le (show 0≤Wi by omega)
    obtain ⟨H,rfl⟩:=Int.eq_ofNat_of_zero_le (show 0≤Hi by omega)
    have hs:Sides W H:=⟨by omega,by omega,by omega,by omega⟩
    have Hs:=Lib.hid hs
    obtain ⟨N,hN⟩:∃ N,3*W*H=N:=⟨_,rfl⟩
    have HN:=Lib.hid hN
    have HNw:=Lib.hid (fun w=>(rNew_calls hs w).mono fun e w' h=>PageOut.n h hN)
    clear hall g1 g2 hN
    have c0:decide ((100:Int)<(k:Int))=false:=by simp;omega
    by_cases hlim:2000<wall
    ·have HE:=Lib.hid (HF.out.trans (if_pos (.inr hlim)))
     have c1:decide ((2000:Int)<wall)=true:=by simp;omega
     obtain ⟨n1,n2⟩:=tok2
     clear n1
     go_wp2_with (first|(go_at_call 64;(with_reducible refine (HNw.out _).mono ?_);rintro e _ ⟨qa,qc,rfl,hb,hf⟩;replace hL:=hL.callF hb hf;clear hb hf)|(with_reducible first|(clear hL n2;intro b2 w2 hL)|(clear hL;intro _ hL))|((with_reducible refine goJ rfl ?_);refine goP ?_))
     exact bodyPost_ret (results_row2 inferInstance rfl _ hL b1 rfl _ _ (.there .here) rfl) rfl ⟨fun h0=>absurd (HE.out.symm.trans h0) (by decide),fun _=>⟨by rw [HE.out];rfl,hL.below⟩⟩
    ·have HE:=Lib.hid (HF.out.trans (if_neg (by omega)))
     have c1:decide ((2000:Int)<wall)=false:=by simp;omega
     obtain ⟨n1,n2⟩:=tok2
     clear n1
     go_wp2_with (first|(go_at_call 64;(with_reducible refine (HNw.out _).mono ?_);rintro e _ ⟨qa,qc,rfl,hb,hf⟩;replace hL:=hL.callF hb hf;clear hb hf)|(with_reducible first|(clear hL n2;intro b2 w2 hL)|(clear hL;intro _ hL))|((with_reducible refine goJ rfl ?_);refine goP ?_))
     have hPd:=HPd.out W
     have hPn:=HPn.out W
     have hP0:=HP0.out W
     have hP9:=HP9.out W
     have hPi:=fun (i:Itm) (f:Nat→Int)=>show paintI W i f=if i.kind=3 then imgF W (markP i) i.image i.mat f else putF W (markP i) i.ink f from rfl
     generalize hPk:(fun k=>paintL W (l.take k))=Pk at *
     have hPk2:∀ k,paintL W (l.take k)=Pk k:=fun k=>by rw [←hPk]
     simp only [hPk2] at hPd hPn hP0 hP9
     clear hPk hPk2
     have HPd:=Lib.hid hPd
     have HPn:=Lib.hid hPn
     have HP9:=Lib.hid hP9
     have HPi:=Lib.hid hPi
     rw [←hP0] at hL
     clear c0 c1 hlim hPd hPn hP0 hP9 hPi
     go_loopw [12] (fun s12 wr=>∃ (j:Nat) (qa:Option Addr) (qc:Nat),j≤k∧s12=.int .i64 j∧Holds w wr [blk b2 #[.int .i64 W,.int .i64 H,.slice qa N qc] 53,blk b1 #[.int .i64 0,.int .i64 0,.slice none 0 0] 53] [PageF (.agg #[.int .i64 W,.int .i64 H,.slice qa N qc]) W H (Pk j)])
      (fun s12 wr=>k-(intOf s12).toNat)
     case atStart=>exact ⟨0,qa,qc,by omega,rfl,hL⟩
     case round =>
      clear hL
      obtain ⟨j,qa,qc,hj,rfl,hL⟩:=hrel
      by_cases hjt:j<k
      ·obtain ⟨bi,oi,pa,pc,ca,cc,rfl,hr,hI,hp2,hp1,hc2,hc1,hOk⟩:=HG.out j hjt
       have hjb:(j:Int)<(k:Int):=by omega
       have hm:=Hall.out j hjt
       have HMj:=Lib.hid (fun w' (hb:Below w.heap.size w w')=>rfMark_calls hs w' _ _ (hI.below hb) hm)
       have hbd:=HPd.out j Hall.out
       have hpn:=HPn.out j hjt
       have hkd:=(mayItm_kind hm).2
       clear hwb
       by_cases hk3:(l.getD j default).kind=3
       ·obtain ⟨hi1,hi2,hi3⟩:mayImg (l.getD j default).image=true∧mayMtx (l.getD j default).mat=true∧detM (l.getD j default).mat≠0:=by
         rcases hkd with ⟨h,_⟩|⟨h,_⟩|⟨_,h⟩
         ·omega
         ·omega
         ·exact h
        have HPj:=Lib.hid (fun w' (hp:PageF (.agg #[.int .i64 W,.int .i64 H,.slice qa N qc]) W H (Pk j) w') (ra:Option Addr) (rn rc:Nat) (hr:RegAt w' (.agg #[.int .i64 W,.int .i64 H,.slice ra rn rc]) (pixReg W H (markP (l.getD j default))))=>(rPaint_calls hs w' _ (Pk j) hp _ hOk.1 hi1 _ hi2 hi3 ra rn rc _ hr).mono fun e w' h=>PageOut.n h HN.out)
        have hpi:=HPi.out (l.getD j default) (Pk j)
        rw [if_pos hk3] at hpi
        rw [←hpi,←hpn] at HPj
        clear hI hm hbd hpn hkd hpi hi1 hi2 hi3 hOk
        unfold maxLen at hp2 hc2
        generalize markP (l.getD j default)=mp at *
        generalize (l.getD j default)=it at *
        obtain ⟨kind,path,rule,⟨wd,cp,join⟩,⟨iw,ih,bits,data⟩,⟨a,b,c,d,e,f⟩,⟨kr,kg,kb,ka⟩,clips⟩:=it
        unfold itmC at hr
        unfold itmV at HMj
        unfold imgV mtxV at HPj
        dsimp only at *
        subst hk3
        generalize path.length=pn at *
        generalize clips.length=cn at *
        have e0:w.cell? ⟨bi,oi+j*21,none⟩=some (.int .i64 3):=hr 0 _ rfl
        have h6:w.rangeAt bi (oi+j*21+6) [.int .i64 iw,.int .i64 ih,.int .i64 bits,.string data]:=range_part hr rfl
        have h10:w.rangeAt bi (oi+j*21+10) [.int .i64 a,.int .i64 b,.int .i64 c,.int .i64 d,.int .i64 e,.int .i64 f]:=range_part hr rfl
        have h16:w.rangeAt bi (oi+j*21+16) [.int .u8 kr,.int .u8 kg,.int .u8 kb,.int .u8 ka]:=range_part hr rfl
        obtain ⟨n1,n2,n3⟩:=tok3
        clear n1 n2
        go_wp2_with (first|(go_at_call 13;(with_reducible refine (HMj.out _ hL.below).mono ?_);rintro e _ ⟨ra,rn,rc,rfl,hb,hf⟩;replace hL:=hL.callF hb hf;clear hb hf)|(with_reducible first|(clear hL n3;intro b3 w3 hL)|(clear hL;intro _ hL))|((with_reducible refine goJ rfl ?_);refine goP ?_))
        replace hL:=hL.drew
        refine wpV_begin (by kernel_rfl) (fun (k':Nat) (w':World)=>k'<15→Holds w w' [blk b3 #[.int .i64 W,.int .i64 H,.slice ra rn rc] 39,blk b2 #[.int .i64 W,.int .i64 H,.slice qa N qc] 53,blk b1 #[.int .i64 0,.int .i64 0,.slice none 0 0] 53] [RegF (.agg #[.int .i64 W,.int .i64 H,.slice ra rn rc]) (pixReg W H mp),PageF (.agg #[.int .i64 W,.int .i64 H,.slice qa N qc]) W H (Pk j)]) 16 ?_
        refine dlV 0 ?_ (fun k' _ _=>hL) (fun w' hw=>?_) ?_;rotate_left;(· (try replace hw:=hw (by decide));refine loadR hw ?_;rfl)
        simp only [Act.put,setP]
        refine deV 1 (fun k' _ _=>hL) ?_
        refine deV 2 (fun k' _ _=>hL) ?_
        refine deV 3 (fun k' _ _=>hL) ?_
        refine deV 4 (fun k' _ _=>hL) ?_
        refine dlV 5 ?_ (fun k' _ _=>hL) (fun w' hw=>?_) ?_;rotate_left;(· (try replace hw:=hw (by decide));refine loadE hw ?_;rfl)
        simp only [Act.put,setP]
        refine deV 6 (fun k' _ _=>hL) ?_
        refine deV 7 (fun k' _ _=>hL) ?_
        refine deV 8 (fun k' _ _=>hL) ?_
        refine deV 9 (fun k' _ _=>hL) ?_
        refine dlV 10 ?_ (fun k' _ _=>hL) (fun w' hw=>?_) ?_;rotate_left;(· (try replace hw:=hw (by decide));refine loadE hw ?_;rfl)
        simp only [Act.put,setP]
        refine dlV 11 ?_ (fun k' _ _=>hL) (fun w' hw=>?_) ?_;rotate_left;(· (try replace hw:=hw (by decide));refine loadR hw ?_;rfl)
        simp only [Act.put,setP]
        refine wpV_one (i:=12) (by kernel_rfl) (wpOf ?_)
        refine st_call rfl _ _ ?_ (HPj.out _ hL.fact1 _ _ _ hL.fact0) ?_
        (· go_simp;try with_reducible rfl)
        rintro e _ ⟨ta,tc,rfl,hb,hf⟩
        replace hL:=hL.callF hb hf
        clear hb hf
        refine ⟨_,rfl,fun k' _ _=>hL.forget,?_⟩
        simp only [Act.put,setP]
        refine deV 13 (fun k' _ _=>hL.forget) ?_
        refine deV 14 (fun k' _ _=>hL.forget) ?_
        refine deV 15 (fun k' _ _=>hL.forget) ?_
        refine wpV_one (i:=16) (by kernel_rfl) (wpOf ?_)
        refine st_store rfl _ _ _ rfl _ rfl (.agg _) rfl ?_
        first|refine storeA hL ?_|refine storeO hL ?_|refine storeR hL ?_
        clear hL;intro w9 hL
        refine ⟨fun k9 hk9 hm9=>?_,?_⟩
        (· exact absurd hm9 (pinned_off 16 15 hk9 (by kernel_rfl) (by decide) (by kernel_rfl)))
        try simp only [Act.put]
        refine wpV_done (by kernel_rfl) ?_
        go_wp2_with (first|(with_reducible (clear hL;intro _ hL))|((with_reducible refine goJ rfl ?_);refine goP ?_))
        go_roundw
        case rel=>exact ⟨j+1,ta,tc,by omega,by go_num,((((hL.drop .here).swap).forget).swap).forget⟩
        case measure=>simp [intOf];omega
       ·have HPj:=Lib.hid (fun w' (hp:PageF (.agg #[.int .i64 W,.int .i64 H,.slice qa N qc]) W H (Pk j) w') (ra:Option Addr) (rn rc:Nat) (hr:RegAt w' (.agg #[.int .i64 W,.int .i64 H,.slice ra rn rc]) (pixReg W H (markP (l.getD j default))))=>(rPut_calls hs w' _ (Pk j) hp hbd ra rn rc _ hr _ hOk.2).mono fun e w' h=>PageOut.n h HN.out)
        have hpi:=HPi.out (l.getD j default) (Pk j)
        rw [if_neg hk3] at hpi
        rw [←hpi,←hpn] at HPj
        have k3:((l.getD j default).kind == 3)=false:=beq_eq_false_iff_ne.2 hk3
        clear hI hm hbd hpn hkd hpi hOk
        unfold maxLen at hp2 hc2
        generalize markP (l.getD j default)=mp at *
        generalize (l.getD j default)=it at *
        obtain ⟨kind,path,rule,⟨wd,cp,join⟩,⟨iw,ih,bits,data⟩,⟨a,b,c,d,e,f⟩,⟨kr,kg,kb,ka⟩,clips⟩:=it
        unfold itmC at hr
        unfold itmV at HMj
        dsimp only at *
        generalize path.length=pn at *
        generalize clips.length=cn at *
        have e0:w.cell? ⟨bi,oi+j*21,none⟩=some (.int .i64 kind):=hr 0 _ rfl
        have h6:w.rangeAt bi (oi+j*21+6) [.int .i64 iw,.int .i64 ih,.int .i64 bits,.string data]:=range_part hr rfl
        have h10:w.rangeAt bi (oi+j*21+10) [.int .i64 a,.int .i64 b,.int .i64 c,.int .i64 d,.int .i64 e,.int .i64 f]:=range_part hr rfl
        have h16:w.rangeAt bi (oi+j*21+16) [.int .u8 kr,.int .u8 kg,.int .u8 kb,.int .u8 ka]:=range_part hr rfl
        obtain ⟨n1,n2,n3⟩:=tok3
        clear n1 n2
        go_wp2_with (first|(go_at_call 13;(with_reducible refine (HMj.out _ hL.below).mono ?_);rintro e _ ⟨ra,rn,rc,rfl,hb,hf⟩;replace hL:=hL.callF hb hf;clear hb hf)|(with_reducible first|(clear hL n3;intro b3 w3 hL)|(clear hL;intro _ hL))|((with_reducible refine goJ rfl ?_);refine goP ?_))
        replace hL:=hL.drew
        refine wpV_begin (by kernel_rfl) (fun (k':Nat) (w':World)=>k'<10→Holds w w' [blk b3 #[.int .i64 W,.int .i64 H,.slice ra rn rc] 39,blk b2 #[.int .i64 W,.int .i64 H,.slice qa N qc] 53,blk b1 #[.int .i64 0,.int .i64 0,.slice none 0 0] 53] [RegF (.agg #[.int .i64 W,.int .i64 H,.slice ra rn rc]) (pixReg W H mp),PageF (.agg #[.int .i64 W,.int .i64 H,.slice qa N qc]) W H (Pk j)]) 11 ?_
        refine dlV 0 ?_ (fun k' _ _=>hL) (fun w' hw=>?_) ?_;rotate_left;(· (try replace hw:=hw (by decide));refine loadR hw ?_;rfl)
        simp only [Act.put,setP]
        refine dlV 1 ?_ (fun k' _ _=>hL) (fun w' hw=>?_) ?_;rotate_left;(· (try replace hw:=hw (by decide));refine loadR hw ?_;rfl)
        simp only [Act.put,setP]
        refine deV 2 (fun k' _ _=>hL) ?_
        refine deV 3 (fun k' _ _=>hL) ?_
        refine deV 4 (fun k' _ _=>hL) ?_
        refine deV 5 (fun k' _ _=>hL) ?_
        refine dlV 6 ?_ (fun k' _ _=>hL) (fun w' hw=>?_) ?_;rotate_left;(· (try replace hw:=hw (by decide));refine loadE hw ?_;rfl)
        simp only [Act.put,setP]
        refine wpV_one (i:=7) (by kernel_rfl) (wpOf ?_)
        refine st_call rfl _ _ ?_ (HPj.out _ hL.fact1 _ _ _ hL.fact0) ?_
        (· go_simp;try with_reducible rfl)
        rintro e _ ⟨ta,tc,rfl,hb,hf⟩
        replace hL:=hL.callF hb hf
        clear hb hf
        refine ⟨_,rfl,fun k' _ _=>hL.forget,?_⟩
        simp only [Act.put,setP]
        refine deV 8 (fun k' _ _=>hL.forget) ?_
        refine deV 9 (fun k' _ _=>hL.forget) ?_
        refine deV 10 (fun k' _ _=>hL.forget) ?_
        refine wpV_one (i:=11) (by kernel_rfl) (wpOf ?_)
        refine st_store rfl _ _ _ rfl _ rfl (.agg _) rfl ?_
        first|refine storeA hL ?_|refine storeO hL ?_|refine storeR hL ?_
        clear hL;intro w9 hL
        refine ⟨fun k9 hk9 hm9=>?_,?_⟩
        (· exact absurd hm9 (pinned_off 11 10 hk9 (by kernel_rfl) (by decide) (by kernel_rfl)))
        try simp only [Act.put]
        refine wpV_done (by kernel_rfl) ?_
        go_wp2_with (first|(with_reducible (clear hL;intro _ hL))|((with_reducible refine goJ rfl ?_);refine goP ?_))
        go_roundw
        case rel=>exact ⟨j+1,ta,tc,by omega,by go_num,((((hL.drop .here).swap).forget).swap).forget⟩
        case measure=>simp [intOf];omega
      ·have e:j=k:=by omega
       subst e
       rw [HP9.out] at hL
       go_wp2_with (first|(with_reducible (clear hL;intro _ hL))|((with_reducible refine goJ rfl ?_);refine goP ?_))
       have hN:=HN.out
       subst hN
       exact bodyPost_ret (results_row2 inferInstance rfl _ hL b1 rfl _ _ (.there .here) rfl) rfl ⟨fun _=>⟨W,H,rfl,rfl,Hs.out,qa,qc,rfl,hL.below,hL.fresh⟩,fun h0=>absurd HE.out h0⟩
open Go.RowKit
def bandU (W:Nat) (f t:Int) (F:Nat→Int) (k x:Nat):Int:=if x<k then bandF W f t F x else 0
theorem bandU_zero (N W:Nat) (f t:Int) (F:Nat→Int):arrU N (fun _=>0)=arrU N (bandU W f t F 0):=arrU_congr fun x _=>by unfold bandU;rw [if_neg (by omega)]
theorem bandU_off {N W k:Nat} {f t:Int} {F:Nat→Int} (h:bandF W f t F k=255):arrU N (fun x=>if x=k then 255 else bandU W f t F k x)=arrU N (bandU W f t F (k+1)):=by
 refine arrU_congr fun x _=>?_
 unfold bandU
 by_cases hx:x=k
 ·subst hx;rw [if_pos rfl,if_pos (by omega),h]
 ·have:x<k+1 ↔ x<k:=by omega
  simp [hx,this]
theorem bandU_on {N W k:Nat} {f t:Int} {F:Nat→Int} (h:bandF W f t F k=F k):arrU N (fun x=>if x=k then F k else if x=k then 255 else bandU W f t F k x)=arrU N (bandU W f t F (k+1)):=by
 refine arrU_congr fun x _=>?_
 unfold bandU
 by_cases hx:x=k
 ·subst hx;rw [if_pos rfl,if_pos (by omega),h]
 ·have:x<k+1 ↔ x<k:=by omega
  simp [hx,this]
theorem bandU_all {N W:Nat} {f t:Int} {F:Nat→Int}:(List.range N).map (bandU W f t F N)=(List.range N).map (bandF W f t F):=List.map_congr_left fun x hx=>by unfold bandU;rw [if_pos (by simpa using hx)]
set_option maxRecDepth 100000 in
set_option maxHeartbeats 16000000 in
theorem rfBand_core {W H:Nat} (hs:Sides W H) (w:World) (v:Value) (F:Nat→Int)
  (HP0:∀ w',Below w.heap.size w w'→Calls Tryz.prog 24 #[v,.int .i64 W,.int .i64 H] w' (PageIs W H (3*W*H) F w')) (f t:Int):Calls Tryz.prog 26 #[v,.int .i64 W,.int .i64 H,.int .i64 f,.int .i64 t] w (PageOut W H (bandF W f t F) w):=by
 obtain ⟨m1,m2,m3,m4⟩:=page_mul hs
 have hw0:=hs.w0;have hw1:=hs.w1;have hh0:=hs.h0;have hh1:=hs.h1
 obtain ⟨D,hD⟩:∃ D,3*W=D:=⟨_,rfl⟩
 have HOn:=Lib.hid (fun (k:Nat) (h1:f≤((k / D:Nat):Int)) (h2:((k / D:Nat):Int)<t)=>show bandF W f t F k=F k from by unfold bandF;rw [hD,if_pos ⟨h1,h2⟩])
 have HOff:=Lib.hid (fun (k:Nat) (h:¬(f≤((k / D:Nat):Int)∧((k / D:Nat):Int)<t))=>show bandF W f t F k=255 from by unfold bandF;rw [hD,if_neg h])
 have HP:=Lib.hid HP0
 clear HP0 hs
 unfold PageOut
 generalize hNn:3*W*H=N at *
 have HNn:=Lib.hid hNn
 have hDN:D*H=N:=by rw [←hD,hNn]
 have q1:IntKind.i64.wrap (3*(W:Int))=(D:Int):=by rw [m3,←hD];simp
 have q5:IntKind.i64.wrap ((D:Int)*(H:Int))=(N:Int):=by rw [←Int.natCast_mul,hDN];exact wrapS (by omega) (by omega)
 have hD9:D≤192:=by omega
 have hD1:0<D:=by omega
 have cD:((D:Int) == 0)=false:=by simp;omega
 have cD2:¬D=0:=by omega
 clear m2 m3 m4 hNn hD hDN
 have hL:=Holds.start w
 obtain ⟨n1,n2,n3,n4⟩:=tok4
 go_enter Tryz.func26,Tryz.ntmps26
 go_wp2_with (first|(go_at_call 24;(with_reducible refine (HP.out _ hL.below).mono ?_);rintro e _ ⟨pb,po,pc,⟨rfl,hpc1,hpc2⟩,hb,hf⟩;replace hL:=hL.callF hb hf;clear hb hf)|((with_reducible refine wpA_make rfl _ _ _ rfl _ rfl rfl ?_);refine makeP N (by omega) (by omega) hL ?_)|(with_reducible first|(clear hL n1;intro b1 w1 hL)|(clear hL n2;intro b2 w2 hL)|(clear hL n3;intro b3 w3 hL)|(clear hL n4;intro b4 w4 hL)|(clear hL;intro _ hL))|((with_reducible refine goJ rfl ?_);refine goP ?_))
 rw [bandU_zero N W f t F] at hL
 go_loopw [15] (fun s15 wr=>∃ k:Nat,k≤N∧s15=.int .i64 k∧Holds w wr [blk b4 #[.int .i64 W,.int .i64 H,.slice (some ⟨b3,0,none⟩) N N] 53,blk b3 (arrU N (bandU W f t F k)) 5,blk b2 #[.int .i64 W,.int .i64 H,.slice (some ⟨pb,po,none⟩) N pc] 53,blk b1 #[.int .i64 0,.int .i64 0,.slice none 0 0] 53] [PixF pb po N F])
  (fun s15 wr=>N-(intOf s15).toNat)
 case atStart=>exact ⟨0,by omega,rfl,hL⟩
 case round =>
  clear hL
  obtain ⟨kx,hk,rfl,hL⟩:=hrel
  by_cases hkt:kx<N
  ·have hkb:(kx:Int)<(N:Int):=by omega
   have d1:(kx:Int).tdiv (D:Int)=((kx / D:Nat):Int):=by rw [Int.tdiv_eq_ediv_of_nonneg (by omega)];exact (Int.natCast_ediv kx D).symm
   have hkd:kx / D≤kx:=Nat.div_le_self kx D
   have HOnk:=Lib.hid (HOn.out kx)
   have HOffk:=Lib.hid (HOff.out kx)
   generalize hj:kx / D=jj at *
   clear hj
   have w1:IntKind.i64.wrap (jj:Int)=(jj:Int):=wrapS (by omega) (by omega)
   rcases (by omega:¬f≤(jj:Int)∨(f≤(jj:Int)∧¬(jj:Int)<t)∨(f≤(jj:Int)∧(jj:Int)<t)) with g1|⟨g1,g2⟩|⟨g1,g2⟩
   ·have c1:decide (f≤(jj:Int))=false:=by simp;omega
    have HB:=Lib.hid (bandU_off (N:=N) (HOffk.out (by omega)))
    clear g1
    go_wp2_with (first|(with_reducible (clear hL;intro _ hL))|((with_reducible refine goJ rfl ?_);refine goP ?_))
    go_roundw
    case rel =>
     rw [HB.out] at hL
     exact ⟨kx+1,by omega,by go_num,hL⟩
    case measure=>simp [intOf];omega
   ·have c1:decide (f≤(jj:Int))=true:=by simp;omega
    have c2:decide ((jj:Int)<t)=false:=by simp;omega
    have HB:=Lib.hid (bandU_off (N:=N) (HOffk.out (by omega)))
    clear g1 g2
    go_wp2_with (first|(with_reducible (clear hL;intro _ hL))|((with_reducible refine goJ rfl ?_);refine goP ?_))
    go_roundw
    case rel =>
     rw [HB.out] at hL
     exact ⟨kx+1,by omega,by go_num,hL⟩
    case measure=>simp [intOf];omega
   ·have c1:decide (f≤(jj:Int))=true:=by simp;omega
    have c2:decide ((jj:Int)<t)=true:=by simp;omega
    have HB:=Lib.hid (bandU_on (N:=N) (HOnk.out g1 g2))
    clear g1 g2
    go_wp2_with (first|(with_reducible (clear hL;intro _ hL))|((with_reducible refine goJ rfl ?_);refine goP ?_))
    replace hL:=hL.drew
    refine wpV_begin (by kernel_rfl) (fun (kx':Nat) (w':World)=>kx'<9→Holds w w' [blk b4 #[.int .i64 W,.int .i64 H,.slice (some ⟨b3,0,none⟩) N N] 53,blk b3 (arrU N fun x=>if x=kx then 255 else bandU W f t F kx x) 5,blk b2 #[.int .i64 W,.int .i64 H,.slice (some ⟨pb,po,none⟩) N pc] 53,blk b1 #[.int .i64 0,.int .i64 0,.slice none 0 0] 53] [PixF pb po N F]) 9 ?_
    refine deV 0 (fun kx' _ _=>hL) ?_
    refine dlV 1 ?_ (fun kx' _ _=>hL) (fun w' hw=>?_) ?_;rotate_left;(· replace hw:=hw (by decide);have e9:=hw.fact0 kx hkt;refine loadA hw ?_;rfl)
    simp only [Act.put,setP]
    refine deV 2 (fun kx' _ _=>hL) ?_
    refine deV 3 (fun kx' _ _=>hL) ?_
    refine dlV 4 ?_ (fun kx' _ _=>hL) (fun w' hw=>?_) ?_;rotate_left;(· replace hw:=hw (by decide);have e9:=hw.fact0 kx hkt;refine loadA hw ?_;rfl)
    simp only [Act.put,setP]
    refine deV 5 (fun kx' _ _=>hL) ?_
    refine deV 6 (fun kx' _ _=>hL) ?_
    refine dlV 7 ?_ (fun kx' _ _=>hL) (fun w' hw=>?_) ?_;rotate_left;(· replace hw:=hw (by decide);have e9:=hw.fact0 kx hkt;refine loadD ?_;rfl)
    simp only [Act.put,setP]
    refine deV 8 (fun kx' _ _=>hL) ?_
    refine wpV_one (i:=9) (by kernel_rfl) (wpOf ?_)
    refine st_store rfl _ _ _ rfl _ rfl (.int _ _) rfl ?_
    first|refine storeA hL ?_|refine storeO hL ?_|refine storeR hL ?_
    clear hL;intro w9 hL
    refine ⟨fun k9 hk9 hm9=>?_,?_⟩
    (· exact absurd hm9 (pinned_off 9 9 hk9 (by kernel_rfl) (by decide) (by kernel_rfl)))
    try simp only [Act.put]
    refine wpV_done (by kernel_rfl) ?_
    go_wp2_with (first|(with_reducible (clear hL;intro _ hL))|((with_reducible refine goJ rfl ?_);refine goP ?_))
    go_roundw
    case rel =>
     rw [HB.out] at hL
     exact ⟨kx+1,by omega,by go_num,hL⟩
    case measure=>simp [intOf];omega
  ·have e:kx=N:=by omega
   subst e
   go_wp2_with (first|(with_reducible (clear hL;intro _ hL))|((with_reducible refine goJ rfl ?_);refine goP ?_))
   have hr:=HNn.out
   subst hr
   refine bodyPost_ret (results_row2 inferInstance rfl _ hL b1 rfl _ _ (.there (.there (.there .here))) rfl) rfl ⟨_,_,rfl,hL.below,?_⟩
   exact (hL.forget.settle (.there .here) (φ:=PageF (.agg #[.int .i64 W,.int .i64 H,.slice (some ⟨b3,0,none⟩) (3*W*H) (3*W*H)]) W H (bandF W f t F)) fun w h=>⟨_,rfl,by
    have h1:=bytes_of h (by unfold maxLen;omega)
    rwa [bandU_all] at h1⟩).fresh
set_option maxRecDepth 100000 in
set_option maxHeartbeats 8000000 in
theorem rfBand_no (w:World) (v:Value) (Wi Hi er:Int) (her:er≠0)
  (HP0:∀ w',Below w.heap.size w w'→Calls Tryz.prog 24 #[v,.int .i64 Wi,.int .i64 Hi] w' fun e w2=>e=.returned (.tuple #[.agg #[.int .i64 0,.int .i64 0,.slice none 0 0],.int .i64 er])∧Below w'.heap.size w' w2) (f t:Int):Calls Tryz.prog 26 #[v,.int .i64 Wi,.int .i64 Hi,.int .i64 f,.int .i64 t] w fun e w'=>e=.returned (.tuple #[.agg #[.int .i64 0,.int .i64 0,.slice none 0 0],.int .i64 er])∧Below w.heap.size w w':=by
 have HP:=Lib.hid HP0
 have hE1:(er != 0)=true:=by simp [her]
 clear HP0 her
 have hL:=Holds.start w
 obtain ⟨n1,n2⟩:=tok2
 go_enter Tryz.func26,Tryz.ntmps26
 go_wp2_with (first|(go_at_call 24;(with_reducible refine (HP.out _ hL.below).mono ?_);rintro e _ ⟨rfl,hb⟩;replace hL:=hL.call hb;clear hb)|(with_reducible first|(clear hL n1;intro b1 w1 hL)|(clear hL n2;intro b2 w2 hL)|(clear hL;intro _ hL))|((with_reducible refine goJ rfl ?_);refine goP ?_))
 exact bodyPost_ret (results_row2 inferInstance rfl _ hL b1 rfl _ _ (.there .here) rfl) rfl ⟨rfl,hL.below⟩
end Go.Proofs.YtmnoeoecjfhhbaaGreat
