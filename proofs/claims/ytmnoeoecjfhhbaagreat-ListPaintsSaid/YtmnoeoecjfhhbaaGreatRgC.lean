/- Runs, rows and regions. -/
import Derived.Test.YtmnoeoecjfhhbaaGreatScnM
import Derived.Test.YtmnoeoecjfhhbaaGreatMskM
import Derived.Test.YtmnoeoecjfhhbaaGreatHulM
namespace Go.Proofs.YtmnoeoecjfhhbaaGreat
open Go.RowKit
def normRow (l:List (Int × Int)) (W:Int):List (Int × Int):=runsTo (shiftP l 0 W) 64
def madeReg (W H:Int) (row:Nat→List (Int × Int)):Reg :=
 if isSide W&&isSide H then ⟨W,H,(List.range H.toNat).map fun j=>normRow (row j) W⟩ else noReg
def madeErr (W H:Int):Int:=if isSide W&&isSide H then 0 else 1
theorem side_calls (a:Int) (w:World) :
  Calls Tryz.prog 108 #[.int .i64 a] w fun e w'=>e=.returned (.bool (isSide a))∧w=w':=by
 rcases (by omega:(1≤a∧a≤64)∨¬1≤a∨(1≤a∧¬a≤64)) with ⟨h1,h2⟩|h1|⟨h1,h2⟩
 ·have Hr:=Lib.hid (show isSide a=true by simp [isSide,h1,h2])
  go_enter Tryz.func108,Tryz.ntmps108
  go_wp2
  go_ret
  exact ⟨ret_bool (by rw [Hr.out]),rfl⟩
 ·have Hr:=Lib.hid (show isSide a=false by simp [isSide,h1])
  go_enter Tryz.func108,Tryz.ntmps108
  go_wp2
  go_ret
  exact ⟨ret_bool (by rw [Hr.out]),rfl⟩
 ·have Hr:=Lib.hid (show isSide a=false by simp [isSide,h2])
  go_enter Tryz.func108,Tryz.ntmps108
  go_wp2
  go_ret
  exact ⟨ret_bool (by rw [Hr.out]),rfl⟩
set_option maxRecDepth 100000 in
set_option maxHeartbeats 1000000 in
theorem regMade_calls (w:World) (W H:Int) (F:Nat) (cap:Array Value) (row:Nat→List (Int × Int))
  (args:Nat→Array Value) (hargs:∀ j:Nat,#[.int .i64 j]++cap=args j) (hrow0:∀ j:Nat,(j:Int)<H→∀ w1,Below w.heap.size w w1→Calls Tryz.prog F (args j) w1 (RunsRet (row j) w1))
  (hC:∀ (j:Nat) w,(callFunc F (#[.int .i64 j]++cap)).run Tryz.prog w=.ok (.enter F (#[.int .i64 j]++cap)) w) :
  Calls Tryz.prog 111 #[.int .i64 W,.int .i64 H,.func (.func F) #[] cap] w (RegOut (madeReg W H row) (madeErr W H) w):=by
 have hL:=Holds.start w
 have hrow:∀ j:Nat,(j:Int)<H→∀ w1,Below w.heap.size w w1→Calls Tryz.prog F (#[.int .i64 j]++cap) w1 (RunsRet (row j) w1):=fun j hj w1 hb=>by rw [hargs];exact hrow0 j hj w1 hb
 clear hrow0 hargs
 have Hrow:=Lib.hid hrow;clear hrow
 cases hs1:isSide W with
 | false =>
  have Hr:madeReg W H row=noReg:=by simp [madeReg,hs1]
  have He:madeErr W H=1:=by simp [madeErr,hs1]
  rw [Hr,He]
  clear Hr He
  obtain ⟨n1,n2,n3,n4⟩:=tok4
  go_enter Tryz.func111,Tryz.ntmps111
  go_wp2_with (first|(go_at_call 108;(with_reducible refine (side_calls _ _).mono ?_);rintro e _ ⟨rfl,rfl⟩)|(with_reducible first|(clear hL n1;intro b1 w1 hL)|(clear hL;intro _ hL))|((with_reducible refine goJ rfl ?_);refine goW ?_))
  exact bodyPost_ret (results_row2 inferInstance rfl _ hL b1 rfl _ _ .here rfl) rfl ⟨_,rfl,hL.below,(hL.triv noReg_at).fresh⟩
 | true =>
  cases hs2:isSide H with
  | false =>
   have Hr:madeReg W H row=noReg:=by simp [madeReg,hs2]
   have He:madeErr W H=1:=by simp [madeErr,hs2]
   rw [Hr,He]
   clear Hr He
   obtain ⟨n1,n2,n3,n4⟩:=tok4
   go_enter Tryz.func111,Tryz.ntmps111
   go_wp2_with (first|(go_at_call 108;(with_reducible refine (side_calls _ _).mono ?_);rintro e _ ⟨rfl,rfl⟩)|(with_reducible first|(clear hL n1;intro b1 w1 hL)|(clear hL;intro _ hL))|((with_reducible refine goJ rfl ?_);refine goW ?_))
   exact bodyPost_ret (results_row2 inferInstance rfl _ hL b1 rfl _ _ .here rfl) rfl ⟨_,rfl,hL.below,(hL.triv noReg_at).fresh⟩
  | true =>
   have HR:=Lib.hid (show madeReg W H row=⟨W,H,(List.range H.toNat).map fun j=>normRow (row j) W⟩ by simp [madeReg,hs1,hs2])
   have He:madeErr W H=0:=by simp [madeErr,hs1,hs2]
   rw [He]
   clear He
   have hH:1≤H∧H≤64:=by simp [isSide] at hs2;exact hs2
   obtain ⟨hh1,hh2⟩:=hH
   obtain ⟨h,rfl⟩:=Int.eq_ofNat_of_zero_le (show 0≤H by omega)
   obtain ⟨n1,n2,n3,n4,n5,n6⟩:=tok6
   go_enter Tryz.func111,Tryz.ntmps111
   go_wp2_with (first|(go_at_call 108;(with_reducible refine (side_calls _ _).mono ?_);rintro e _ ⟨rfl,rfl⟩)|(with_reducible first|(clear hL n1;intro b1 w1 hL)|(clear hL n2;intro b2 w2 hL)|(clear hL n3;intro b3 w3 hL)|(clear hL;intro _ hL))|((with_reducible refine goJ rfl ?_);refine goW ?_))
   go_loopw [27] (fun s27 wr=>∃ (j:Nat) (cs:Array Value),j≤h∧s27=.int .i64 j∧cs.size=h ∧
     Holds w wr [blk b3 #[.int .i64 W,.int .i64 h,.slice (some ⟨b2,0,none⟩) h h] 39,blk b2 cs 115,blk b1 #[.int .i64 0,.int .i64 0,.slice none 0 0] 39]
      [fun w=>∀ i,i<j→∃ v,cs[i]?=some v∧RunsAt w v (normRow (row i) W)])
    (fun s27 wr=>(h-intOf s27).toNat)
   case atStart=>exact ⟨0,_,by omega,rfl,by simp,hL.triv (fun _ i hi=>by omega)⟩
   case round =>
    clear hL
    obtain ⟨j,cs,hj,rfl,hcs,hL⟩:=hrel
    have Hcs:=Lib.hid hcs;clear hcs
    by_cases hlt:j<h
    ·go_wp2_with (first|(with_reducible first|(clear hL n1;intro b1 w1 hL)|(clear hL n2;intro b2 w2 hL)|(clear hL n3;intro b3 w3 hL)|(clear hL n4;intro b4 w4 hL)|(clear hL n5;intro b5 w5 hL)|(clear hL n6;intro b6 w6 hL)|(clear hL;intro _ _ hL)|(clear hL;intro _ hL))|((with_reducible refine goJ rfl ?_);refine goW ?_))
     replace hL:=hL.drew
     have hne:=hL.apart
     simp [blk] at hne
     obtain ⟨⟨f32,_⟩,_⟩:=hne
     have e23:¬b2=b3:=by first|exact f32|exact fun e=>f32 e.symm
     have c1:=hL.cell (o:=2) .here
     simp only [List.getElem?_toArray,List.getElem?_cons_zero,List.getElem?_cons_succ] at c1
     go_region_held3 (fun w'=>w'.cell? ⟨b3,2,none⟩=some (.slice (some ⟨b2,0,none⟩) h h))
      (first|exact hL.cell (o:=2) .here|go_keep|(rw [World.cell?_setCell_other _ _ _ _ (by simp [e23])];exact hL.cell (o:=2) .here))
      (first
       | (go_at_call 132;(with_reducible refine (spanNorm_calls _ vr _ hr _).mono ?_);rintro e w3 ⟨v3,rfl,hb,hf⟩;obtain ⟨sa,sn,sc,rfl⟩:=SliceAt.shape hf.now;replace hL:=hL.callF hb hf;clear hb hf hr;have cc:w3.cell? ⟨b2,j,none⟩=some (cs[j]'(by rw [Hcs.out];exact hlt)):=(hL.cell (.there .here)).trans (by simp);have cf:=hL.soft (o:=j) (.there .here))
       | ((refine (Hrow.out j (by omega) _ hL.below).mono ?_);rintro e w2 ⟨vr,rfl,hb,hr⟩;replace hL:=hL.call hb;clear hb))
     go_wp2
     go_roundw
     case rel =>
      refine ⟨j+1,cs.setIfInBounds j (.slice sa sn sc),by omega,by go_num,by rw [Array.size_setIfInBounds];exact Hcs.out,(hL.setCell (o:=j) (v:=.slice sa sn sc) (.there .here)).join fun w' h1 h2 i hi=>?_⟩
      by_cases hij:i=j
      ·subst hij
       exact ⟨_,by rw [Array.getElem?_setIfInBounds,if_pos rfl,if_pos (by rw [Hcs.out];exact hlt)],h1⟩
      ·obtain ⟨v',e1,e2⟩:=h2 i (by omega)
       exact ⟨v',by rw [Array.getElem?_setIfInBounds,if_neg (fun e=>hij e.symm)];exact e1,e2⟩
     case measure=>simp [intOf];omega
    ·have e:j=h:=by omega
     subst e
     go_wp2_with (first|(with_reducible (clear hL;intro _ hL))|((with_reducible refine goJ rfl ?_);refine goW ?_))
     refine bodyPost_ret (results_row2 inferInstance rfl _ hL b1 rfl _ _ (.there (.there .here)) rfl) rfl ⟨_,rfl,hL.below,?_⟩
     rw [HR.out]
     refine ((hL.settle (.there .here) (φ:=fun w=>w.heap[b2]?=some (.cells cs 115 (0,0))) fun _ h=>h).join fun w' h1 h2=>?_).fresh
     exact ⟨_,rfl,by simpa using rows_of h1 Hcs.out (by unfold maxLen;omega) h2⟩
def mayReg (R:Reg):Bool:=isSide R.W&&(isSide R.H&&(decide ((R.rows.length:Int)=R.H)&&R.rows.all fun l=>mayRuns l R.W))
set_option maxRecDepth 100000 in
set_option maxHeartbeats 1000000 in
theorem regMay_calls (w:World) (v:Value) (R:Reg) (hv:RegAt w v R) :
  Calls Tryz.prog 68 #[v] w fun e w'=>e=.returned (.bool (mayReg R))∧Below w.heap.size w w':=by
 obtain ⟨s,rfl,hs⟩:=hv
 obtain ⟨a,cap,rfl,hlc,hcm,hel⟩:=hs.parts
 clear hs
 obtain ⟨W,H,rows⟩:=R
 simp only at hlc hel ⊢
 unfold maxLen at hcm
 have Hel:=Lib.hid hel;clear hel
 have hL:=Holds.start w
 cases h1:isSide W with
 | false =>
  have Hr:=Lib.hid (show mayReg ⟨W,H,rows⟩=false by simp [mayReg,h1])
  obtain ⟨n1,n2⟩:=tok2
  go_enter Tryz.func68,Tryz.ntmps68
  go_wp2_with (first|(go_at_call 108;(with_reducible refine (side_calls _ _).mono ?_);rintro e _ ⟨rfl,rfl⟩)|(with_reducible (clear hL n1;intro b1 w1 hL))|((with_reducible refine goJ rfl ?_);refine goW ?_))
  go_ret
  exact ⟨ret_bool (by rw [Hr.out]),hL.below⟩
 | true =>
  cases h2:isSide H with
  | false =>
   have Hr:=Lib.hid (show mayReg ⟨W,H,rows⟩=false by simp [mayReg,h2])
   obtain ⟨n1,n2⟩:=tok2
   go_enter Tryz.func68,Tryz.ntmps68
   go_wp2_with (first|(go_at_call 108;(with_reducible refine (side_calls _ _).mono ?_);rintro e _ ⟨rfl,rfl⟩)|(with_reducible (clear hL n1;intro b1 w1 hL))|((with_reducible refine goJ rfl ?_);refine goW ?_))
   go_ret
   exact ⟨ret_bool (by rw [Hr.out]),hL.below⟩
  | true =>
   cases h3:((rows.length:Int) != H) with
   | true =>
    have Hr:=Lib.hid (show mayReg ⟨W,H,rows⟩=false by simp at h3;simp [mayReg,h3])
    obtain ⟨n1,n2⟩:=tok2
    go_enter Tryz.func68,Tryz.ntmps68
    go_wp2_with (first|(go_at_call 108;(with_reducible refine (side_calls _ _).mono ?_);rintro e _ ⟨rfl,rfl⟩)|(with_reducible (clear hL n1;intro b1 w1 hL))|((with_reducible refine goJ rfl ?_);refine goW ?_))
    go_ret
    exact ⟨ret_bool (by rw [Hr.out]),hL.below⟩
   | false =>
    have Hr:=Lib.hid (show mayReg ⟨W,H,rows⟩=rows.all fun l=>mayRuns l W by simp at h3;simp [mayReg,h1,h2,h3])
    obtain ⟨n1,n2⟩:=tok2
    go_enter Tryz.func68,Tryz.ntmps68
    go_wp2_with (first|(go_at_call 108;(with_reducible refine (side_calls _ _).mono ?_);rintro e _ ⟨rfl,rfl⟩)|(with_reducible (clear hL n1;intro b1 w1 hL))|((with_reducible refine goJ rfl ?_);refine goW ?_))
    go_loopw [26] (fun s26 wr=>∃ k:Nat,k≤rows.length∧s26=.int .i64 k∧((rows.take k).all fun l=>mayRuns l W)=true∧Holds w wr [blk b1 #[.int .i64 W,.int .i64 H,.slice a rows.length cap] 39] [])
     (fun s26 wr=>rows.length-(intOf s26).toNat)
    case atStart=>exact ⟨0,by omega,rfl,rfl,hL⟩
    case round =>
     clear hL
     obtain ⟨k,hk,rfl,hm,hL⟩:=hrel
     by_cases hlt:k<rows.length
     ·obtain ⟨b,o,rfl,va,vn,vc,hc,hr⟩:=Hel.out k hlt
      have Hs:=Lib.hid (all_take_step (fun l=>mayRuns l W) rows k [] hlt)
      rw [hm] at Hs
      have Hf:=Lib.hid (all_take_false (fun l=>mayRuns l W) rows (k+1))
      clear hm
      generalize rows.getD k []=rk at *
      have Hrr:=Lib.hid hr;clear hr
      cases hmk:mayRuns rk W with
      | true =>
       rw [hmk] at Hs
       go_wp2_with (first|(go_at_call 109;(with_reducible refine (spanMay_calls _ _ _ (Hrr.out.hold hL) _).mono ?_);rintro e _ ⟨rfl,hb⟩;replace hL:=hL.call hb;clear hb)|((with_reducible refine goJ rfl ?_);refine goW ?_))
       go_roundw
       case rel=>exact ⟨k+1,by omega,by go_num,by rw [Hs.out];rfl,hL⟩
       case measure=>simp [intOf];omega
      | false =>
       rw [hmk] at Hs
       go_wp2_with (first|(go_at_call 109;(with_reducible refine (spanMay_calls _ _ _ (Hrr.out.hold hL) _).mono ?_);rintro e _ ⟨rfl,hb⟩;replace hL:=hL.call hb;clear hb)|((with_reducible refine goJ rfl ?_);refine goW ?_))
       go_ret
       exact ⟨ret_bool (by rw [Hr.out,Hf.out (by rw [Hs.out];rfl)]),hL.below⟩
     ·have e:k=rows.length:=by omega
      subst e
      rw [List.take_length] at hm
      have Hm:=Lib.hid hm;clear hm
      go_wp2_with (first|(with_reducible first|(clear hL n1;intro b1 w1 hL)|(clear hL n2;intro b2 w2 hL)|(clear hL;intro _ _ hL))|((with_reducible refine goJ rfl ?_);refine goW ?_))
      go_ret
      exact ⟨ret_bool (by rw [Hr.out,Hm.out]),hL.below⟩
theorem Below.from {w0 w w1:World} {M:List Res} {Φ:List (World→Prop)} (hL:Holds w0 w M Φ) (h:Below w.heap.size w w1):Below w0.heap.size w0 w1:=hL.below.trans (h.mono hL.size)
def OnRuns (G:Nat) (f:List (Int × Int)→List (Int × Int)→List (Int × Int)):Prop :=
 (∀ w a b la lb,RunsAt w a la→RunsAt w b lb→Calls Tryz.prog G #[a,b] w (RunsOut (f la lb) w))∧∀ a b w,(callFunc G #[a,b]).run Tryz.prog w=.ok (.enter G #[a,b]) w
set_option maxRecDepth 100000 in
set_option maxHeartbeats 1000000 in
theorem bothRow_calls (w:World) (j:Nat) (bh ba bb G:Nat) (f:List (Int × Int)→List (Int × Int)→List (Int × Int)) (hG:OnRuns G f) (sa sb:Value) (ra rb:List (List (Int × Int)))
  (hh:w.cell? ⟨bh,0,none⟩=some (.func (.func G) #[] #[])) (h1:w.cell? ⟨ba,2,none⟩=some sa) (h2:w.cell? ⟨bb,2,none⟩=some sb) (hsa:RowsAt w sa ra) (hsb:RowsAt w sb rb) (hja:j<ra.length) (hjb:j<rb.length) :
  Calls Tryz.prog 112 #[.int .i64 j,.pointer (some ⟨bh,0,none⟩),.pointer (some ⟨ba,0,none⟩),.pointer (some ⟨bb,0,none⟩)] w (RunsRet (f (ra.getD j []) (rb.getD j [])) w):=by
 obtain ⟨a,ca,rfl,hla,hma,hea⟩:=hsa.parts
 obtain ⟨b,cb,rfl,hlb,hmb,heb⟩:=hsb.parts
 obtain ⟨xa,oa,rfl,va,na,vca,hca,hra⟩:=hea j hja
 obtain ⟨xb,ob,rfl,vb,nb,vcb,hcb,hrb⟩:=heb j hjb
 generalize ra.getD j []=la at *
 generalize rb.getD j []=lb at *
 clear hea heb hsa hsb
 unfold maxLen at hma hmb
 obtain ⟨hG1,hG2⟩:=hG
 have HG:=Lib.hid hG1;clear hG1
 have Hra:=Lib.hid hra;clear hra
 have Hrb:=Lib.hid hrb;clear hrb
 have hL:=Holds.start w
 go_enter Tryz.func112,Tryz.ntmps112
 go_wp2_with fail
 replace hL:=hL.drew
 go_region_held3 (fun w'=>w'.cell? ⟨bh,0,none⟩=some (.func (.func G) #[] #[])∧w'.cell? ⟨ba,2,none⟩=some (.slice (some ⟨xa,oa,none⟩) ra.length ca)∧w'.cell? ⟨bb,2,none⟩=some (.slice (some ⟨xb,ob,none⟩) rb.length cb)∧w'.cell? ⟨xa,oa+j,none⟩=some (.slice va na vca)∧w'.cell? ⟨xb,ob+j,none⟩=some (.slice vb nb vcb))
  (first|go_keep|exact ⟨hL.old hh,hL.old h1,hL.old h2,hL.old hca,hL.old hcb⟩)
  (((refine (HG.out _ _ _ _ _ (Hra.out.hold hL) (Hrb.out.hold hL)).mono ?_);rintro e w2 ⟨v,rfl,hb,hf⟩;replace hL:=hL.callF hb hf;clear hb))
 go_wp2
 go_ret
 exact ⟨v,rfl,hL.below,hL.fact0⟩
def bothMay (A B:Reg):Bool:=mayReg A&&(mayReg B&&(decide (A.W=B.W)&&decide (A.H=B.H)))
def bothReg (f:List (Int × Int)→List (Int × Int)→List (Int × Int)) (A B:Reg):Reg:=if bothMay A B then madeReg A.W A.H fun j=>f (A.rows.getD j []) (B.rows.getD j []) else noReg
def bothErr (A B:Reg):Int:=if bothMay A B then 0 else 1
theorem mayReg_len {R:Reg} (h:mayReg R=true):isSide R.W=true∧isSide R.H=true∧(R.rows.length:Int)=R.H:=by
 simp [mayReg] at h;exact ⟨h.1,h.2.1,h.2.2.1⟩
theorem ret_tup {v:Value} {k:IntKind} {a b:Int} (h:a=b):Ending.returned (.tuple #[v,.int k a])=.returned (.tuple #[v,.int k b]):=by rw [h]
theorem madeErr_ok {W H:Int} (h1:isSide W=true) (h2:isSide H=true):madeErr W H=0:=by simp [madeErr,h1,h2]
set_option maxRecDepth 100000 in
set_option maxHeartbeats 2000000 in
theorem regBoth_calls (w:World) (va vb:Value) (A B:Reg) (ha:RegAt w va A) (hb:RegAt w vb B) (G:Nat) (f:List (Int × Int)→List (Int × Int)→List (Int × Int)) (hG:OnRuns G f) :
  Calls Tryz.prog 70 #[va,vb,.func (.func G) #[] #[]] w (RegOut (bothReg f A B) (bothErr A B) w):=by
 have Ha:=Lib.hid ha
 have Hb:=Lib.hid hb
 obtain ⟨xa,na,ca,rfl,hsa⟩:=ha.shape
 obtain ⟨xb,nb,cb,rfl,hsb⟩:=hb.shape
 clear ha hb
 have Hsa:=Lib.hid hsa;clear hsa
 have Hsb:=Lib.hid hsb;clear hsb
 have HG:=Lib.hid hG;clear hG
 have hL:=Holds.start w
 by_cases hbm:bothMay A B=true
 ·have hE:bothErr A B=0:=by simp [bothErr,hbm]
  have HR:=Lib.hid (show bothReg f A B=madeReg A.W A.H fun j=>f (A.rows.getD j []) (B.rows.getD j []) by simp [bothReg,hbm])
  simp [bothMay] at hbm
  obtain ⟨m1,m2,m3,m4⟩:=hbm
  have l1:=mayReg_len m1
  have l2:=mayReg_len m2
  have HE:=Lib.hid (hE.trans (madeErr_ok l1.1 l1.2.1).symm)
  clear hE
  have Hjl:=Lib.hid (show ∀ j:Nat,(j:Int)<A.H→j<A.rows.length∧j<B.rows.length from fun j hj=>by have:=l1.2.2;have:=l2.2.2;omega)
  have q1:(A.W != B.W)=false:=by simp [m3]
  have q2:(A.H != B.H)=false:=by simp [m4]
  clear l1 l2 m3 m4
  obtain ⟨WA,HA,rA⟩:=A
  obtain ⟨WB,HB,rB⟩:=B
  simp only at q1 q2 Hjl HR HE
  obtain ⟨n1,n2,n3,n4,n5,n6⟩:=tok6
  go_enter Tryz.func70,Tryz.ntmps70
  go_wp2_with (first|(go_at_call 68;(first|(with_reducible refine (regMay_calls _ _ _ (Ha.out.hold hL)).mono ?_)|(with_reducible refine (regMay_calls _ _ _ (Hb.out.hold hL)).mono ?_));rintro e _ ⟨rfl,hb⟩;replace hL:=hL.call hb;clear hb)|(with_reducible first|(clear hL n1;intro b1 w1 hL)|(clear hL n2;intro b2 w2 hL)|(clear hL n3;intro b3 w3 hL)|(clear hL n4;intro b4 w4 hL)|(clear hL;intro _ hL))|((with_reducible refine goJ rfl ?_);refine goW ?_))
  have c0:=hL.cell (o:=0) (.there .here)
  have c1:=hL.cell (o:=2) (.there (.there (.there .here)))
  have c2:=hL.cell (o:=2) (.there (.there .here))
  simp only [List.getElem?_toArray,List.getElem?_cons_zero,List.getElem?_cons_succ] at c0 c1 c2
  refine (regMade_calls _ _ _ _ _ (fun j=>f (rA.getD j []) (rB.getD j [])) (fun j=>#[.int .i64 j,.pointer (some ⟨b3,0,none⟩),.pointer (some ⟨b1,0,none⟩),.pointer (some ⟨b2,0,none⟩)]) (fun j=>rfl) (fun j hj w1 hb1=>?_) (fun j w=>?_)).mono ?_
  ·exact bothRow_calls w1 j b3 b1 b2 G f HG.out _ _ rA rB (cell_later hb1 c0) (cell_later hb1 c1) (cell_later hb1 c2) (Hsa.out.below (Below.from hL hb1)) (Hsb.out.below (Below.from hL hb1)) (Hjl.out j hj).1 (Hjl.out j hj).2
  ·kernel_rfl
  rintro e _ ⟨v,rfl,hb,hf⟩
  obtain ⟨sa,sn,sc,rfl,_⟩:=RegAt.shape hf.now
  replace hL:=hL.callF hb hf
  clear hb hf c0 c1 c2
  go_wp2_with (first|(with_reducible (clear hL;intro _ hL))|((with_reducible refine goJ rfl ?_);refine goW ?_))
  exact bodyPost_ret (results_row2 inferInstance rfl _ hL b4 rfl _ _ .here rfl) rfl ⟨_,ret_tup HE.out.symm,hL.below,by rw [HR.out];exact hL.fresh⟩
 ·have hbm':bothMay A B=false:=by simpa using hbm
  have HE:=Lib.hid (show bothErr A B=1 by simp [bothErr,hbm'])
  have HR:=Lib.hid (show bothReg f A B=noReg by simp [bothReg,hbm'])
  clear hbm
  simp only [bothMay] at hbm'
  cases m1:mayReg A with
  | false =>
   clear hbm'
   obtain ⟨n1,n2,n3,n4,n5,n6⟩:=tok6
   go_enter Tryz.func70,Tryz.ntmps70
   go_wp2_with (first|(go_at_call 68;(first|(with_reducible refine (regMay_calls _ _ _ (Ha.out.hold hL)).mono ?_)|(with_reducible refine (regMay_calls _ _ _ (Hb.out.hold hL)).mono ?_));rintro e _ ⟨rfl,hb⟩;replace hL:=hL.call hb;clear hb)|(with_reducible first|(clear hL n1;intro b1 w1 hL)|(clear hL n2;intro b2 w2 hL)|(clear hL n3;intro b3 w3 hL)|(clear hL n4;intro b4 w4 hL)|(clear hL;intro _ hL))|((with_reducible refine goJ rfl ?_);refine goW ?_))
   exact bodyPost_ret (results_row2 inferInstance rfl _ hL b4 rfl _ _ .here rfl) rfl ⟨_,ret_tup HE.out.symm,hL.below,by rw [HR.out];exact (hL.triv noReg_at).fresh⟩
  | true =>
   cases m2:mayReg B with
   | false =>
    clear hbm'
    obtain ⟨n1,n2,n3,n4,n5,n6⟩:=tok6
    go_enter Tryz.func70,Tryz.ntmps70
    go_wp2_with (first|(go_at_call 68;(first|(with_reducible refine (regMay_calls _ _ _ (Ha.out.hold hL)).mono ?_)|(with_reducible refine (regMay_calls _ _ _ (Hb.out.hold hL)).mono ?_));rintro e _ ⟨rfl,hb⟩;replace hL:=hL.call hb;clear hb)|(with_reducible first|(clear hL n1;intro b1 w1 hL)|(clear hL n2;intro b2 w2 hL)|(clear hL n3;intro b3 w3 hL)|(clear hL n4;intro b4 w4 hL)|(clear hL;intro _ hL))|((with_reducible refine goJ rfl ?_);refine goW ?_))
    exact bodyPost_ret (results_row2 inferInstance rfl _ hL b4 rfl _ _ .here rfl) rfl ⟨_,ret_tup HE.out.symm,hL.below,by rw [HR.out];exact (hL.triv noReg_at).fresh⟩
   | true =>
    rw [m1,m2] at hbm'
    cases q1:(A.W != B.W) with
    | true =>
     clear hbm'
     obtain ⟨n1,n2,n3,n4,n5,n6⟩:=tok6
     go_enter Tryz.func70,Tryz.ntmps70
     go_wp2_with (first|(go_at_call 68;(first|(with_reducible refine (regMay_calls _ _ _ (Ha.out.hold hL)).mono ?_)|(with_reducible refine (regMay_calls _ _ _ (Hb.out.hold hL)).mono ?_));rintro e _ ⟨rfl,hb⟩;replace hL:=hL.call hb;clear hb)|(with_reducible first|(clear hL n1;intro b1 w1 hL)|(clear hL n2;intro b2 w2 hL)|(clear hL n3;intro b3 w3 hL)|(clear hL n4;intro b4 w4 hL)|(clear hL;intro _ hL))|((with_reducible refine goJ rfl ?_);refine goW ?_))
     exact bodyPost_ret (results_row2 inferInstance rfl _ hL b4 rfl _ _ .here rfl) rfl ⟨_,ret_tup HE.out.symm,hL.below,by rw [HR.out];exact (hL.triv noReg_at).fresh⟩
    | false =>
     have q2:(A.H != B.H)=true:=by
      simp at q1 hbm' ⊢
      exact hbm' q1
     clear hbm'
     obtain ⟨n1,n2,n3,n4,n5,n6⟩:=tok6
     go_enter Tryz.func70,Tryz.ntmps70
     go_wp2_with (first|(go_at_call 68;(first|(with_reducible refine (regMay_calls _ _ _ (Ha.out.hold hL)).mono ?_)|(with_reducible refine (regMay_calls _ _ _ (Hb.out.hold hL)).mono ?_));rintro e _ ⟨rfl,hb⟩;replace hL:=hL.call hb;clear hb)|(with_reducible first|(clear hL n1;intro b1 w1 hL)|(clear hL n2;intro b2 w2 hL)|(clear hL n3;intro b3 w3 hL)|(clear hL n4;intro b4 w4 hL)|(clear hL;intro _ hL))|((with_reducible refine goJ rfl ?_);refine goW ?_))
     exact bodyPost_ret (results_row2 inferInstance rfl _ hL b4 rfl _ _ .here rfl) rfl ⟨_,ret_tup HE.out.symm,hL.below,by rw [HR.out];exact (hL.triv noReg_at).fresh⟩
def rowsOp (h:Bool→Bool→Bool) (la lb:List (Int × Int)):List (Int × Int):=runsTo (fun i=>h (inRuns la i) (inRuns lb i)) 64
theorem onMeet:OnRuns 71 (rowsOp fun x y=>x&&y):=⟨fun w a b la lb ha hb=>spanMeet_calls w a b la lb ha hb,fun _ _ _=>by kernel_rfl⟩
theorem regMeet_calls (w:World) (va vb:Value) (A B:Reg) (ha:RegAt w va A) (hb:RegAt w vb B) :
  Calls Tryz.prog 29 #[va,vb] w (RegOut (bothReg (rowsOp fun x y=>x&&y) A B) (bothErr A B) w):=by
 have Ha:=Lib.hid ha
 have Hb:=Lib.hid hb
 obtain ⟨xa,na,ca,rfl,_⟩:=ha.shape
 obtain ⟨xb,nb,cb,rfl,_⟩:=hb.shape
 clear ha hb
 have hL:=Holds.start w
 obtain ⟨n1,n2,n3,n4⟩:=tok4
 go_enter Tryz.func29,Tryz.ntmps29
 go_wp2_with (first|(go_at_call 70;(with_reducible refine (regBoth_calls _ _ _ A B (Ha.out.hold hL) (Hb.out.hold hL) _ _ onMeet).mono ?_);rintro e _ ⟨v,rfl,hb,hf⟩;obtain ⟨sa,sn,sc,rfl,_⟩:=RegAt.shape hf.now;replace hL:=hL.callF hb hf;clear hb hf)|(with_reducible first|(clear hL n1;intro b1 w1 hL)|(clear hL n2;intro b2 w2 hL)|(clear hL n3;intro b3 w3 hL)|(clear hL;intro _ hL))|((with_reducible refine goJ rfl ?_);refine goW ?_))
 exact bodyPost_ret (results_row2 inferInstance rfl _ hL b3 rfl _ _ .here rfl) rfl ⟨_,rfl,hL.below,hL.fresh⟩
def rectRow (x0 y0 x1 y1:Int) (j:Nat):List (Int × Int):=if (j:Int)<y0∨y1≤(j:Int) then [] else [(x0,x1)]
theorem runs_nil (w:World):RunsAt w (.slice none 0 0) []:=⟨none,0,rfl,Nat.le_refl _,by unfold maxLen;omega,fun i hi=>by simp at hi⟩
set_option maxHeartbeats 1000000 in
theorem rectRow_calls (w:World) (j:Nat) (x0 y0 x1 y1:Int) (p0 p1 p2 p3:Nat) (h0:w.cell? ⟨p0,0,none⟩=some (.int .i64 y0)) (h1:w.cell? ⟨p1,0,none⟩=some (.int .i64 y1)) (h2:w.cell? ⟨p2,0,none⟩=some (.int .i64 x0)) (h3:w.cell? ⟨p3,0,none⟩=some (.int .i64 x1)) :
  Calls Tryz.prog 127 #[.int .i64 j,.pointer (some ⟨p0,0,none⟩),.pointer (some ⟨p1,0,none⟩),.pointer (some ⟨p2,0,none⟩),.pointer (some ⟨p3,0,none⟩)] w (RunsRet (rectRow x0 y0 x1 y1 j) w):=by
 have hL:=Holds.start w
 by_cases g1:(j:Int)<y0
 ·have HR:=Lib.hid (show rectRow x0 y0 x1 y1 j=[] by simp [rectRow,g1])
  have d1:decide ((j:Int)<y0)=true:=by simp [g1]
  go_enter Tryz.func127,Tryz.ntmps127
  go_wp2_with (first|((with_reducible refine wpA_lit rfl _ _ _ rfl ?_);first|refine litA1 hL ?_|refine litA2 hL ?_)|((with_reducible refine goJ rfl ?_);refine goW ?_))
  go_ret
  exact ⟨_,rfl,hL.below,by rw [HR.out];exact runs_nil _⟩
 ·have d1:decide ((j:Int)<y0)=false:=by simp;omega
  by_cases g2:y1≤(j:Int)
  ·have HR:=Lib.hid (show rectRow x0 y0 x1 y1 j=[] by simp [rectRow,g2])
   have d2:decide (y1≤(j:Int))=true:=by simp [g2]
   go_enter Tryz.func127,Tryz.ntmps127
   go_wp2_with (first|((with_reducible refine wpA_lit rfl _ _ _ rfl ?_);first|refine litA1 hL ?_|refine litA2 hL ?_)|((with_reducible refine goJ rfl ?_);refine goW ?_))
   go_ret
   exact ⟨_,rfl,hL.below,by rw [HR.out];exact runs_nil _⟩
  ·have HR:=Lib.hid (show rectRow x0 y0 x1 y1 j=[(x0,x1)] by simp [rectRow,g1,g2])
   have d2:decide (y1≤(j:Int))=false:=by simp;omega
   obtain ⟨n1,n2⟩:=tok2
   go_enter Tryz.func127,Tryz.ntmps127
   go_wp2_with (first|(with_reducible (clear hL n1;intro b1 w1 hL))|((with_reducible refine wpA_lit rfl _ _ _ rfl ?_);first|refine litA1 hL ?_|refine litA2 hL ?_)|((with_reducible refine goJ rfl ?_);refine goW ?_))
   go_ret
   exact ⟨_,rfl,hL.below,by rw [HR.out];exact blk_runs hL .here⟩
set_option maxHeartbeats 1000000 in
theorem regRect_calls (w:World) (W H x0 y0 x1 y1:Int) :
  Calls Tryz.prog 84 #[.int .i64 W,.int .i64 H,.int .i64 x0,.int .i64 y0,.int .i64 x1,.int .i64 y1] w (RegOut (madeReg W H (rectRow x0 y0 x1 y1)) (madeErr W H) w):=by
 have hL:=Holds.start w
 obtain ⟨n1,n2,n3,n4,n5,n6,n7,n8⟩:=tok8
 go_enter Tryz.func84,Tryz.ntmps84
 go_wp2_with (first|(with_reducible first|(clear hL n1;intro b1 w1 hL)|(clear hL n2;intro b2 w2 hL)|(clear hL n3;intro b3 w3 hL)|(clear hL n4;intro b4 w4 hL)|(clear hL n5;intro b5 w5 hL)|(clear hL;intro _ hL))|((with_reducible refine goJ rfl ?_);refine goW ?_))
 have c0:=hL.cell (o:=0) (.there (.there (.there (.there .here))))
 have c1:=hL.cell (o:=0) (.there (.there (.there .here)))
 have c2:=hL.cell (o:=0) (.there (.there .here))
 have c3:=hL.cell (o:=0) (.there .here)
 simp only [List.getElem?_toArray,List.getElem?_cons_zero] at c0 c1 c2 c3
 refine (regMade_calls _ _ _ _ _ (rectRow x0 y0 x1 y1) (fun j=>#[.int .i64 j,.pointer (some ⟨b2,0,none⟩),.pointer (some ⟨b4,0,none⟩),.pointer (some ⟨b1,0,none⟩),.pointer (some ⟨b3,0,none⟩)]) (fun j=>rfl) (fun j hj w1 hb1=>?_) (fun j w=>?_)).mono ?_
 ·exact rectRow_calls w1 j x0 y0 x1 y1 b2 b4 b1 b3 (cell_later hb1 c1) (cell_later hb1 c3) (cell_later hb1 c0) (cell_later hb1 c2)
 ·kernel_rfl
 rintro e _ ⟨v,rfl,hb,hf⟩
 obtain ⟨sa,sn,sc,rfl,_⟩:=RegAt.shape hf.now
 replace hL:=hL.callF hb hf
 clear hb hf c0 c1 c2 c3
 go_wp2_with (first|(with_reducible first|(clear hL n1;intro b1 w1 hL)|(clear hL n2;intro b2 w2 hL)|(clear hL n3;intro b3 w3 hL)|(clear hL n4;intro b4 w4 hL)|(clear hL n5;intro b5 w5 hL)|(clear hL;intro _ hL))|((with_reducible refine goJ rfl ?_);refine goW ?_))
 exact bodyPost_ret (results_row2 inferInstance rfl _ hL b5 rfl _ _ .here rfl) rfl ⟨_,rfl,hL.below,hL.fresh⟩
theorem regAll_calls (w:World) (W H:Int) :
  Calls Tryz.prog 43 #[.int .i64 W,.int .i64 H] w (RegOut (madeReg W H (rectRow 0 0 W H)) (madeErr W H) w):=by
 have hL:=Holds.start w
 obtain ⟨n1,n2,n3,n4,n5,n6,n7,n8⟩:=tok8
 go_enter Tryz.func43,Tryz.ntmps43
 go_wp2_with (first|(go_at_call 84;(with_reducible refine (regRect_calls _ _ _ _ _ _ _).mono ?_);rintro e _ ⟨v,rfl,hb,hf⟩;obtain ⟨sa,sn,sc,rfl,_⟩:=RegAt.shape hf.now;replace hL:=hL.callF hb hf;clear hb hf)|(with_reducible first|(clear hL n1;intro b1 w1 hL)|(clear hL;intro _ hL))|((with_reducible refine goJ rfl ?_);refine goW ?_))
 exact bodyPost_ret (results_row2 inferInstance rfl _ hL b1 rfl _ _ .here rfl) rfl ⟨_,rfl,hL.below,hL.fresh⟩
theorem cutI_side {W:Int} (h:isSide W=true):cutI W=W:=by
 simp [isSide] at h;unfold cutI;omega
theorem normRow_eq (l:List (Int × Int)) (W:Int):normRow l W=runsTo (fun i=>decide ((i:Int)<cutI W)&&inRuns l i) 64:=by
 unfold normRow
 refine runsTo_congr fun i _=>?_
 have e:((i:Int)-0).toNat=i:=by omega
 simp only [shiftP,e]
 have:decide (0≤(i:Int)-0)=true:=by simp
 rw [this];simp
theorem normRow_congr {l m:List (Int × Int)} {W:Int} (h:∀ i:Nat,(i:Int)<cutI W→inRuns l i=inRuns m i):normRow l W=normRow m W:=by
 rw [normRow_eq,normRow_eq]
 refine runsTo_congr fun i _=>?_
 by_cases hi:(i:Int)<cutI W
 ·rw [h i hi]
 ·simp [hi]
theorem normRow_may {l:List (Int × Int)} {W:Int} (h:mayRuns l W=true):normRow l W=l:=by
 have hW:0≤W∧W≤64:=by simp [mayRuns] at h;omega
 obtain ⟨n,rfl⟩:=Int.eq_ofNat_of_zero_le hW.1
 have hc:cutI (n:Int)=n:=by unfold cutI;omega
 have off:∀ i,n≤i→inRuns l i=false:=fun i hi=>by
  have:=inRuns_runsTo (inRuns l) (n:=n) (by omega) i
  rw [runsTo_places h] at this
  rw [this];simp;omega
 rw [normRow_eq,hc,runsTo_beyond (n:=n) (by omega) (fun i h1 _=>by simp;omega)]
 refine runsTo_eq h fun i hi=>?_
 simp [hi]
theorem madeReg_ok {W H:Int} (h1:isSide W=true) (h2:isSide H=true) (row:Nat→List (Int × Int)):madeReg W H row=⟨W,H,(List.range H.toNat).map fun j=>normRow (row j) W⟩:=by
 simp [madeReg,h1,h2]
theorem inRuns_rowsOp (h:Bool→Bool→Bool) (la lb:List (Int × Int)) {i:Nat} (hi:i<64):inRuns (rowsOp h la lb) i=h (inRuns la i) (inRuns lb i):=by
 unfold rowsOp
 rw [inRuns_runsTo _ (Nat.le_refl _)]
 simp [hi]
theorem inRuns_rect (x0 y0 x1 y1:Int) (j i:Nat):inRuns (rectRow x0 y0 x1 y1 j) i=(decide (y0≤(j:Int))&&(decide ((j:Int)<y1)&&inRun (x0,x1) i)):=by
 unfold rectRow
 by_cases h:(j:Int)<y0∨y1≤(j:Int)
 ·rw [if_pos h]
  have:(decide (y0≤(j:Int))&&(decide ((j:Int)<y1)&&inRun (x0,x1) i))=false:=by
   rcases h with h|h
   ·have:¬y0≤(j:Int):=by omega
    simp [this]
   ·have:¬(j:Int)<y1:=by omega
    simp [this]
  rw [this];rfl
 ·rw [if_neg h]
  have h1:y0≤(j:Int):=by omega
  have h2:(j:Int)<y1:=by omega
  simp [inRuns,h1,h2]
theorem bothReg_ok (f:List (Int × Int)→List (Int × Int)→List (Int × Int)) {A B:Reg} (hA:mayReg A=true) (hB:mayReg B=true) (hW:A.W=B.W) (hH:A.H=B.H) :
  bothReg f A B=madeReg A.W A.H (fun j=>f (A.rows.getD j []) (B.rows.getD j []))∧bothErr A B=0:=by
 have:bothMay A B=true:=by simp [bothMay,hA,hB,hW,hH]
 simp [bothReg,bothErr,this]
def pixReg (W H:Nat) (q:Nat→Nat→Bool):Reg:=⟨W,H,(List.range H).map fun j=>runsTo (q j) W⟩
theorem pix_row {W H:Nat} (q:Nat→Nat→Bool) {j:Nat} (hj:j<H):(pixReg W H q).rows.getD j []=runsTo (q j) W:=by
 simp [pixReg,hj]
theorem pix_in {W H:Nat} (hW:W≤64) (q:Nat→Nat→Bool) {j:Nat} (hj:j<H) (i:Nat):inRuns ((pixReg W H q).rows.getD j []) i=(decide (i<W)&&q j i):=by
 rw [pix_row q hj,inRuns_runsTo _ hW]
theorem pix_may {W H:Nat} (hW0:1≤W) (hW:W≤64) (hH0:1≤H) (hH:H≤64) (q:Nat→Nat→Bool):mayReg (pixReg W H q)=true:=by
 simp only [mayReg,pixReg,side_nat hW0 hW,side_nat hH0 hH,Bool.true_and,Bool.and_eq_true]
 refine ⟨by simp,?_⟩
 simp only [List.all_eq_true,List.mem_map]
 rintro l ⟨j,_,rfl⟩
 exact mayRuns_runsTo _ hW
theorem pix_congr {W H:Nat} {p q:Nat→Nat→Bool} (h:∀ j,j<H→∀ i,i<W→p j i=q j i):pixReg W H p=pixReg W H q:=by
 unfold pixReg
 congr 1
 refine List.map_congr_left fun j hj=>runsTo_congr (h j ?_)
 simpa using hj
theorem made_pix {W H:Nat} (hW0:1≤W) (hW:W≤64) (hH0:1≤H) (hH:H≤64) {row:Nat→List (Int × Int)} {q:Nat→Nat→Bool} (h:∀ j,j<H→∀ i,i<W→inRuns (row j) i=q j i):madeReg W H row=pixReg W H q:=by
 have hs:=side_nat hW0 hW
 rw [madeReg_ok hs (side_nat hH0 hH)]
 unfold pixReg
 simp only [Int.toNat_natCast]
 congr 1
 refine List.map_congr_left fun j hj=>?_
 rw [normRow_eq,cutI_side hs,runsTo_beyond (n:=W) hW (fun i h1 _=>by simp;omega)]
 refine runsTo_congr fun i hi=>?_
 rw [h j (by simpa using hj) i hi]
 simp [hi]
theorem madeErr_pix {W H:Nat} (hW0:1≤W) (hW:W≤64) (hH0:1≤H) (hH:H≤64):madeErr W H=0:=madeErr_ok (side_nat hW0 hW) (side_nat hH0 hH)
theorem both_pix {W H:Nat} (hW0:1≤W) (hW:W≤64) (hH0:1≤H) (hH:H≤64) (f:Bool→Bool→Bool) (p q:Nat→Nat→Bool) :
  bothReg (rowsOp f) (pixReg W H p) (pixReg W H q)=pixReg W H (fun j i=>f (p j i) (q j i))∧bothErr (pixReg W H p) (pixReg W H q)=0:=by
 obtain ⟨e1,e2⟩:=bothReg_ok (rowsOp f) (pix_may hW0 hW hH0 hH p) (pix_may hW0 hW hH0 hH q) rfl rfl
 refine ⟨?_,e2⟩
 rw [e1]
 refine made_pix hW0 hW hH0 hH fun j hj i hi=>?_
 rw [inRuns_rowsOp _ _ _ (by omega),pix_in hW _ hj,pix_in hW _ hj]
 simp [hi]
theorem rect_pix {W H:Nat} (hW0:1≤W) (hW:W≤64) (hH0:1≤H) (hH:H≤64) (x0 y0 x1 y1:Int) :
  madeReg W H (rectRow x0 y0 x1 y1)=pixReg W H (fun j i=>decide (y0≤(j:Int))&&(decide ((j:Int)<y1)&&(decide (x0≤(i:Int))&&decide ((i:Int)<x1)))):=by
 refine made_pix hW0 hW hH0 hH fun j hj i hi=>?_
 rw [inRuns_rect]
 congr 1;congr 1
 simp only [inRun]
 rw [Bool.eq_iff_iff];simp;omega
theorem all_pix {W H:Nat} (hW0:1≤W) (hW:W≤64) (hH0:1≤H) (hH:H≤64):madeReg W H (rectRow 0 0 W H)=pixReg W H (fun _ _=>true):=by
 rw [rect_pix hW0 hW hH0 hH]
 refine pix_congr fun j hj i hi=>?_
 simp;omega
theorem flat1 {α:Type}:∀ l:List α,(l.map fun v=>[v]).flatten=l
 | []=>rfl
 | a::l=>by simp [flat1 l]
theorem rows_own {w:World} {B:Nat} {e:TypeId} {v:Value} {n:Nat} {xs:List Value} (h:(own B e 1 v n xs).ok w) (hn:xs.length=n) {F:Nat→List (Int × Int)} (hv:∀ i v,xs[i]?=some v→RunsAt w v (F i)) :
  RowsAt w v ((List.range n).map F):=by
 refine ⟨xs,by simp [hn],own_sliceAt (els:=xs.map fun v=>[v]) h (by simp [hn]) (flat1 xs).symm (by simp),fun i v hi=>?_⟩
 have hlt:i<n:=by rw [←hn];exact (List.getElem?_eq_some_iff.1 hi).1
 have e:((List.range n).map F).getD i []=F i:=by simp [hlt]
 rw [e]
 exact hv i v hi
def RegF (v:Value) (R:Reg) (w:World):Prop:=RegAt w v R
theorem Holds.reg {w0 w:World} {M:List Res} {Φ:List (World→Prop)} {v:Value} {R:Reg} (hL:Holds w0 w M Φ) (h:FactAt Φ (RegF v R)):RegAt w v R:=hL.fact h
def PixOut (W H:Nat) (q:Nat→Nat→Bool) (w:World) (e:Ending) (w':World):Prop :=
 ∃ sa sn sc,e=.returned (.tuple #[.agg #[.int .i64 W,.int .i64 H,.slice sa sn sc],.int .i64 0])∧Below w.heap.size w w'∧Fresh w w' (RegF (.agg #[.int .i64 W,.int .i64 H,.slice sa sn sc]) (pixReg W H q))
theorem PixOut.of {W H:Nat} {q:Nat→Nat→Bool} {R:Reg} {err:Int} {w:World} {e:Ending} {w':World} (h:RegOut R err w e w') (hR:R=pixReg W H q) (he:err=0):PixOut W H q w e w':=by
 subst hR;subst he
 obtain ⟨v,rfl,hb,hf⟩:=h
 obtain ⟨sa,sn,sc,rfl,_⟩:=RegAt.shape hf.now
 exact ⟨sa,sn,sc,rfl,hb,hf⟩
section
variable {W H : Nat} (hs : Sides W H)
include hs
theorem pixAll_calls (w:World):Calls Tryz.prog 43 #[.int .i64 W,.int .i64 H] w (PixOut W H (fun _ _=>true) w) :=
 (regAll_calls w W H).mono fun _ _ h=>.of h (all_pix hs.w0 hs.w1 hs.h0 hs.h1) (madeErr_pix hs.w0 hs.w1 hs.h0 hs.h1)
theorem pixMeet_calls (w:World) (v u:Value) (p q:Nat→Nat→Bool) (h:RegAt w v (pixReg W H p)) (k:RegAt w u (pixReg W H q)):Calls Tryz.prog 29 #[v,u] w (PixOut W H (fun j i=>p j i&&q j i) w) :=
 (regMeet_calls w v u _ _ h k).mono fun _ _ h=>.of h (both_pix hs.w0 hs.w1 hs.h0 hs.h1 _ p q).1 (both_pix hs.w0 hs.w1 hs.h0 hs.h1 (fun x y=>x&&y) p q).2
theorem pixMay_calls (w:World) (v:Value) (p:Nat→Nat→Bool) (h:RegAt w v (pixReg W H p)):Calls Tryz.prog 68 #[v] w fun e w'=>e=.returned (.bool true)∧Below w.heap.size w w' :=
 (regMay_calls w v _ h).mono fun _ _ h=>by rw [pix_may hs.w0 hs.w1 hs.h0 hs.h1] at h;exact h
end
end Go.Proofs.YtmnoeoecjfhhbaaGreat
