/- Package list: Mark, where there is none; regions compared. -/
import Derived.Test.YtmnoeoecjfhhbaaGreatIm5
namespace Go.Proofs.YtmnoeoecjfhhbaaGreat
open Go.RowKit
theorem listPaintE_calls {how:Int} {E:Prop} (Wy:WayE how E) (w:World) (v:Value) (l:List Itm) (hv:ItmsAt w v l) (Wi Hi:Int) (hE:∀ i∈l,i.kind=2→E):Calls Tryz.prog 22 #[v,.int .i64 Wi,.int .i64 Hi,.int .i64 how] w (PaintOut l Wi Hi w):=by
 cases hs:(isSide Wi&&isSide Hi) with
 | false=>exact listPaint_no how w v l hv Wi Hi hs
 | true =>
  rw [Bool.and_eq_true] at hs
  obtain ⟨h1,h2⟩:=hs
  unfold isSide at h1 h2
  simp only [Bool.and_eq_true,decide_eq_true_iff] at h1 h2
  obtain ⟨W,rfl⟩:=Int.eq_ofNat_of_zero_le (show 0≤Wi by omega)
  obtain ⟨H,rfl⟩:=Int.eq_ofNat_of_zero_le (show 0≤Hi by omega)
  exact listPaintE_ok Wy ⟨by omega,by omega,by omega,by omega⟩ w v l hv hE
theorem listPaint_calls {how:Int} (Wy:Way how) (w:World) (v:Value) (l:List Itm) (hv:ItmsAt w v l) (Wi Hi:Int):Calls Tryz.prog 22 #[v,.int .i64 Wi,.int .i64 Hi,.int .i64 how] w (PaintOut l Wi Hi w) :=
 listPaintE_calls Wy w v l hv Wi Hi fun _ _ _=>trivial
theorem run_conv {w:World} {v:Value} {l:List Int} (h:BytesAt w v l):(convert 51 9 v).run Tryz.prog w=.ok (.string (strS l)) w:=by
 obtain ⟨a,c,rfl,_,_,h4⟩:=h.parts
 rw [run_convert_bytes_string w _ _ _ a l.length c Tryz.underlying51 Tryz.underlying5 Tryz.underlying9]
 rcases l with _|⟨x,t⟩
 ·exact run_cut0
 ·obtain ⟨b,o,rfl,_⟩:=h4 0 (by simp)
  refine run_bytesToString w ⟨b,o,none⟩ _ c (x::t) ?_
  rw [run_loadCells (P:=Tryz.prog) w ⟨b,o,none⟩ (x::t).length (fun k=>.int .u8 ((x::t).getD k 0)) (fun k hk=>by
   obtain ⟨b',o',e',hc⟩:=h4 k hk
   cases e'
   have hadd:(⟨b,o,none⟩:Addr).add k=⟨b,o+k,none⟩:=by unfold Addr.add;split <;> simp_all
   rw [hadd,hc])]
  congr 1
  apply Array.ext_getElem?
  intro i
  simp only [List.getElem?_toArray,List.getElem?_map]
  by_cases hi:i<(x::t).length
  ·rw [List.getElem?_range hi]
   have e:=List.getElem?_eq_getElem hi
   simp only [Option.map_some,e]
   rw [getD_in _ hi]
  ·rw [List.getElem?_eq_none (by simpa using hi),List.getElem?_eq_none (by simpa using hi)]
   rfl
theorem wpA_conv {ops:Array Oper} {rest:List Oper} {o:Oper} {a:Act} {w:World} {Q:Exit→Act→World→Prop} (hgd:Region.wanted o (yielded ops a.tmps)=true) (x:Operand) (ho:o.op=.convert 51 9 x) (v:Value) (hx:a.eval x=v) {l:List Int} (hb:BytesAt w v l)
  (h:wpList Tryz.prog ops Q rest (a.put o.dst (.string (strS l))) w):wpList Tryz.prog ops Q (o::rest) a w:=by
 refine wpList_run hgd _ w ?_ h
 unfold execOp
 simp only [ho,Sem.run_bind,hx,run_conv hb]
 rfl
set_option maxRecDepth 100000 in
theorem helpBytes_calls (w:World) (v u:Value) (l:List Int) (h:BytesAt w v l) (k:BytesAt w u l):Calls Tryz.prog 63 #[v,u] w fun e w'=>e=.returned (.bool true)∧w=w':=by
 have H:=Lib.hid h
 have K:=Lib.hid k
 obtain ⟨a,c,rfl,_⟩:=h.parts
 obtain ⟨b,d,rfl,_⟩:=k.parts
 clear h k
 go_enter Tryz.func63,Tryz.ntmps63
 go_wp2_with (first|(with_reducible refine wpA_conv rfl _ rfl (.slice _ _ _) rfl H.out ?_)|(with_reducible refine wpA_conv rfl _ rfl (.slice _ _ _) rfl K.out ?_))
 go_ret
 exact ⟨ret_bool (by simp),rfl⟩
set_option maxRecDepth 100000 in
set_option maxHeartbeats 4000000 in
theorem helpPage_calls (w:World) (a b:Int) (v u:Value) (l:List Int) (h:BytesAt w v l) (k:BytesAt w u l):Calls Tryz.prog 23 #[.agg #[.int .i64 a,.int .i64 b,v],.agg #[.int .i64 a,.int .i64 b,u]] w fun e w'=>e=.returned (.bool true)∧Below w.heap.size w w':=by
 have HB:=Lib.hid (fun w' (hb:Below w.heap.size w w')=>helpBytes_calls w' v u l (SliceAt.below h hb) (SliceAt.below k hb))
 obtain ⟨a1,c1,rfl,_⟩:=h.parts
 obtain ⟨a2,c2,rfl,_⟩:=k.parts
 generalize l.length=n at *
 have hL:=Holds.start w
 clear h k
 have ea:(a == a)=true:=beq_self_eq_true a
 have eb:(b == b)=true:=beq_self_eq_true b
 obtain ⟨n1,n2⟩:=tok2
 go_enter Tryz.func23,Tryz.ntmps23
 go_wp2_with (first|(go_at_call 63;(with_reducible refine (HB.out _ hL.below).mono ?_);rintro e _ ⟨rfl,rfl⟩)|(with_reducible first|(clear hL n1;intro b1 w1 hL)|(clear hL n2;intro b2 w2 hL))|((with_reducible refine goJ rfl ?_);refine goP ?_))
 go_ret
 exact ⟨ret_bool (by simp),hL.below⟩
theorem bytes_none (w:World):BytesAt w (.slice none 0 0) []:=⟨none,0,rfl,by simp,by unfold maxLen;omega,fun i hi=>by simp at hi⟩
theorem segs_kn {w0 w:World} {M:List Res} {Φ:List (World→Prop)} {b n:Nat} {cs:Array Value} {T:TypeId} {l:List Sg} (hL:Holds w0 w M Φ) (k:At M (blk b cs T)) (hn:n=l.length) (hcs:cs.toList=(l.map segC).flatten) (hm:n≤maxLen):SegsAt w (.slice (some ⟨b,0,none⟩) n n) l:=segs_blk hL k hn hcs hm
def knB:List Int:=[0,0,0,0,0,0,255,255,255]
def KnF (a:Option Addr) (c:Nat) (w:World):Prop:=BytesAt w (.slice a 9 c) knB
theorem KnF.bytes {a:Option Addr} {c:Nat} {w:World} (h:KnF a c w):BytesAt w (.slice a 9 c) knB:=h
def KnOut (w:World) (e:Ending) (w':World):Prop:=∃ a c,e=.returned (.tuple #[.agg #[.int .i64 3,.int .i64 1,.slice a 9 c],.int .i64 0])∧Below w.heap.size w w'∧Fresh w w' (KnF a c)
theorem kn_page {w w':World} {e:Ending} (h:PaintOut [knI] 3 1 w e w'):KnOut w e w':=by
 obtain ⟨W,H,hW,hH,_,a,c,rfl,hb,hf⟩:=h.1 kn_err
 have eW:W=3:=by omega
 have eH:H=1:=by omega
 subst eW
 subst eH
 refine ⟨a,c,rfl,hb,hf.mono fun w2 h2=>?_⟩
 obtain ⟨s,e,h2⟩:=h2
 cases e
 have hk:(List.range (3*3*1)).map (paintL 3 [knI])=knB:=kn_bytes
 rw [hk] at h2
 exact h2
theorem kn_items {w0 w:World} {M:List Res} {Φ:List (World→Prop)} {b1 b3:Nat} {T U:TypeId} (hL:Holds w0 w M Φ) {cs ds:Array Value} (h1:At M (blk b1 cs T)) (h3:At M (blk b3 ds U)) (hcs:cs.toList=(knI.path.map segC).flatten) (hds:ds.toList=itmC (.slice (some ⟨b1,0,none⟩) 4 4) (.slice none 0 0) knI):ItmsAt w (.slice (some ⟨b3,0,none⟩) 1 1) [knI]:=by
 refine ⟨some ⟨b3,0,none⟩,1,rfl,by simp,by unfold maxLen;omega,fun i hi=>⟨b3,0,rfl,?_⟩⟩
 have h0:i=0:=by simpa using hi
 subst h0
 refine ⟨.slice (some ⟨b1,0,none⟩) 4 4,.slice none 0 0,fun j v hj=>?_,?_,⟨none,0,rfl,Nat.le_refl 0,by unfold maxLen;omega,fun i hi=>absurd hi (Nat.not_lt_zero i)⟩,⟨Nat.zero_le _,show InkOk knI.ink by unfold InkOk knI;decide⟩⟩
 ·rw [Nat.zero_mul,Nat.zero_add,hL.cell h3,←Array.getElem?_toList,hds]
  exact hj
 ·exact segs_kn hL h1 rfl hcs (by unfold maxLen;omega)
set_option maxRecDepth 100000 in
set_option maxHeartbeats 8000000 in
theorem known_calls (w:World):Calls Tryz.prog 11 #[] w fun e w'=>e=.returned (.bool true)∧Below w.heap.size w w':=by
 have HP1:=Lib.hid (fun w v (hv:ItmsAt w v [knI])=>(listPaint_calls wayLine w v [knI] hv 3 1).mono fun e w' h=>kn_page h)
 have HP2:=Lib.hid (fun w v (hv:ItmsAt w v [knI])=>(listPaintE_calls (wayPointF 0 (by decide)) w v [knI] hv 3 1 (fun i hi h=>by rw [List.mem_singleton.1 hi] at h;exact absurd h (by decide))).mono fun e w' h=>kn_page h)
 have hS:strS knB=ByteArray.mk #[0,0,0,0,0,0,255,255,255]:=by rfl
 have hL:=Holds.start w
 obtain ⟨n1,n2,n3,n4,n5,n6⟩:=tok6
 go_enter Tryz.func11,Tryz.ntmps11
 go_wp2_with (first|(with_reducible first|(clear hL n1;intro b1 w1 hL)|(clear hL n2;intro b2 w2 hL)|(clear hL n3;intro b3 w3 hL)|(clear hL n4;intro b4 w4 hL)|(clear hL n5;intro b5 w5 hL)|(clear hL;intro _ hL))|((with_reducible refine wpA_lit rfl _ _ _ rfl ?_);first|refine litA1 hL ?_|refine litA2 hL ?_|refine litA3 hL ?_|refine litA4 hL ?_|refine litA6 hL ?_)|((with_reducible refine goJ rfl ?_);refine goP ?_))
 have hI:=kn_items hL (.there (.there .here)) .here rfl rfl
 refine (HP1.out _ _ hI).mono ?_
 clear hI
 rintro e _ ⟨qa,qc,rfl,hb,hf⟩
 replace hL:=hL.callF hb hf
 clear hb hf
 go_wp2_with (first|(with_reducible first|(clear hL n1;intro b1 w1 hL)|(clear hL n2;intro b2 w2 hL)|(clear hL n3;intro b3 w3 hL)|(clear hL n4;intro b4 w4 hL)|(clear hL n5;intro b5 w5 hL)|(clear hL;intro _ hL))|((with_reducible refine wpA_lit rfl _ _ _ rfl ?_);first|refine litA1 hL ?_|refine litA2 hL ?_|refine litA3 hL ?_|refine litA4 hL ?_|refine litA6 hL ?_)|((with_reducible refine goJ rfl ?_);refine goP ?_))
 have hI:=kn_items hL (.there (.there (.there (.there .here)))) .here rfl rfl
 refine (HP2.out _ _ hI).mono ?_
 clear hI
 rintro e _ ⟨ra,rc,rfl,hb,hf⟩
 replace hL:=hL.callF hb hf
 clear hb hf
 go_wp2_with (first|(with_reducible first|refine wpA_conv rfl _ rfl (.slice _ _ _) rfl (KnF.bytes hL.fact0) ?_|refine wpA_conv rfl _ rfl (.slice _ _ _) rfl (KnF.bytes hL.fact1) ?_)|(with_reducible first|(clear hL n6;intro b6 w6 hL)|(clear hL;intro _ hL))|((with_reducible refine wpA_lit rfl _ _ _ rfl ?_);first|refine litA1 hL ?_|refine litA2 hL ?_|refine litA3 hL ?_|refine litA4 hL ?_|refine litA6 hL ?_)|((with_reducible refine goJ rfl ?_);refine goP ?_))
 go_ret
 exact ⟨ret_bool (by simp),hL.below⟩
open Go.RowKit
set_option maxRecDepth 100000 in
set_option maxHeartbeats 16000000 in
theorem few_calls (w:World) (v:Value) (l:List Itm) (hv:ItmsAt w v l):Calls Tryz.prog 12 #[v] w fun e w'=>(∃ b,e=.returned (.bool b)∧(b=true→l.length≤8))∧Below w.heap.size w w':=by
 have hv':=hv
 obtain ⟨a,cap,rfl,hlc,hcm,_⟩:=hv
 unfold maxLen at hcm
 have HG:=Lib.hid (fun k (hk:k<l.length)=>show ∃ b o pa pc ca cc,a=some ⟨b,o,none⟩∧w.cell? ⟨b,o+k*21+1,none⟩=some (.slice pa (l.getD k default).path.length pc)∧w.cell? ⟨b,o+k*21+9,none⟩=some (.string (l.getD k default).image.data)∧w.cell? ⟨b,o+k*21+20,none⟩=some (.slice ca (l.getD k default).clips.length cc)∧ClpsAt w (.slice ca (l.getD k default).clips.length cc) (l.getD k default).clips∧(l.getD k default).path.length≤maxLen∧(l.getD k default).clips.length≤maxLen∧(l.getD k default).image.data.size≤maxLen from by
  obtain ⟨b,o,pa,pc,ca,cc,e,hr,hI,hp2,hp1,hc2,hc1,ho⟩:=ItmsAt.get hv' hk
  obtain ⟨vp,vc,e3,_,hC,_⟩:=hI
  have e4:=(show vc=.slice ca (l.getD k default).clips.length cc from by
   unfold itmV itmC at e3
   simp at e3
   exact e3.2.symm)
  subst e4
  exact ⟨b,o,pa,pc,ca,cc,e,hr 1 _ rfl,hr 9 _ rfl,hr 20 _ rfl,hC,Nat.le_trans hp1 hp2,Nat.le_trans hc1 hc2,ho.1⟩)
 clear hv'
 generalize l.length=n at *
 have hL:=Holds.start w
 go_enter Tryz.func12,Tryz.ntmps12
 go_wp2_with ((with_reducible refine goJ rfl ?_);refine goP ?_)
 go_loopw [3,4] (fun s3 s4 wr=>∃ (k:Nat) (m:Int),k≤n∧k≤10∧s4=.int .i64 k∧s3=.int .i64 m∧Holds w wr [] [])
  (fun s3 s4 wr=>10-(intOf s4).toNat)
 case atStart=>exact ⟨0,0,by omega,by omega,rfl,rfl,hL⟩
 case round =>
  clear hL
  obtain ⟨k,m,hk,hk10,rfl,rfl,hL⟩:=hrel
  by_cases hkt:k<n∧k<10
  ·obtain ⟨hkt,hkt2⟩:=hkt
   obtain ⟨b,o,pa,pc,ca,cc,rfl,c1,c9,c20,hC,hl1,hl2,hl3⟩:=HG.out k hkt
   have HC:=Lib.hid (fun j (hj:j<(l.getD k default).clips.length)=>ClpsAt.get hC hj)
   clear hC
   unfold maxLen at hl1 hl2 hl3
   generalize (l.getD k default).path.length=pn at *
   generalize (l.getD k default).image.data=data at *
   generalize (l.getD k default).clips=cl at *
   have hq:(data.size:Int).tdiv 40=(data.size:Int) / 40:=Int.tdiv_eq_ediv_of_nonneg (by omega)
   have q0:decide ((k:Int)<(n:Int))=true:=by simp;omega
   have q1:decide ((k:Int)<10)=true:=by simp;omega
   go_wp2_with ((with_reducible refine goJ rfl ?_);refine goP ?_)
   refine wpH_holds (by kernel_rfl) hL fun hS=>?_
   replace hL:=hS
   refine deH 0 hS ?_
   refine deH 1 hS ?_
   refine deH 2 hS ?_
   refine deH 3 hS ?_
   refine deH 4 hS ?_
   refine dlH 5 ?_ hS (fun w' hw=>?_) ?_;rotate_left;(· refine loadC hw ?_;rfl)
   simp only [Act.put,setP]
   refine deH 6 hS ?_
   refine deH 7 hS ?_
   refine deH 8 hS ?_
   refine deH 9 hS ?_
   refine deH 10 hS ?_
   refine deH 11 hS ?_
   refine deH 12 hS ?_
   refine dlH 13 ?_ hS (fun w' hw=>?_) ?_;rotate_left;(· refine loadC hw ?_;rfl)
   simp only [Act.put,setP]
   refine deH 14 hS ?_
   refine deH 15 hS ?_
   refine deH 16 hS ?_
   refine deH 17 hS ?_
   refine wpAnyH_done (by kernel_rfl) ?_ _
   clear hS
   generalize IntKind.i64.wrap (m+(pn:Int))=z1
   generalize IntKind.i64.wrap ((data.size:Int) / 40)=z2
   generalize IntKind.i64.wrap (z1+z2)=z3
   clear hq
   generalize hds:(data.size:Int)=ds at *
   clear hds
   go_wp2_with ((with_reducible refine goJ rfl ?_);refine goP ?_)
   go_loopw [3,5] (fun s3 s5 wq=>∃ (j:Nat) (m:Int),j≤cl.length∧j≤12∧s5=.int .i64 j∧s3=.int .i64 m∧Holds w wq [] [])
    (fun s3 s5 wq=>12-(intOf s5).toNat)
   case atStart=>exact ⟨0,_,by omega,by omega,rfl,rfl,hL⟩
   case round =>
    clear hL
    obtain ⟨j,m2,hj,hj12,rfl,rfl,hL⟩:=hrel
    by_cases hjt:j<cl.length∧j<12
    ·obtain ⟨hjt,hjt2⟩:=hjt
     obtain ⟨b',o',pa',pc',rfl,hr',_,hp2',hp1'⟩:=HC.out j hjt
     have d1:w.cell? ⟨b',o'+j*2,none⟩=some (.slice pa' (cl.getD j default).path.length pc'):=hr' 0 _ rfl
     clear hr'
     unfold maxLen at hp2'
     generalize (cl.getD j default).path.length=qn at *
     generalize cl.length=cn at *
     have q2:decide ((j:Int)<(cn:Int))=true:=by simp;omega
     have q3:decide ((j:Int)<12)=true:=by simp;omega
     have hjb:(j:Int)<(cn:Int):=by omega
     go_wp2_with ((with_reducible refine goJ rfl ?_);refine goP ?_)
     go_roundw
     case rel =>
      exact ⟨j+1,_,by omega,by omega,by go_num,rfl,hL⟩
     case measure=>simp [intOf];omega
    ·generalize cl.length=cn at *
     by_cases hj3:j<cn
     ·have q2:decide ((j:Int)<(cn:Int))=true:=by simp;omega
      have q3:decide ((j:Int)<12)=false:=by simp;omega
      by_cases hc12:12<cn
      ·have q4:(12:Int)<(cn:Int):=by omega
       go_wp2_with ((with_reducible refine goJ rfl ?_);refine goP ?_)
       go_ret
       exact ⟨⟨_,rfl,fun h=>by cases h⟩,hL.below⟩
      ·omega
     ·have q2:decide ((j:Int)<(cn:Int))=false:=by simp;omega
      by_cases hc12:12<cn
      ·omega
      ·have q4:¬(12:Int)<(cn:Int):=by omega
       go_wp2_with ((with_reducible refine goJ rfl ?_);refine goP ?_)
       go_roundw
       case rel =>
        exact ⟨k+1,m2,by omega,by omega,by go_num,rfl,hL⟩
       case measure=>simp [intOf];omega
  ·by_cases hkn:k<n
   ·have q0:decide ((k:Int)<(n:Int))=true:=by simp;omega
    have q1:decide ((k:Int)<10)=false:=by simp;omega
    have q2:decide ((n:Int)≤8)=false:=by simp;omega
    go_wp2_with ((with_reducible refine goJ rfl ?_);refine goP ?_)
    go_ret
    exact ⟨⟨_,rfl,fun h=>by cases h⟩,hL.below⟩
   ·have q0:decide ((k:Int)<(n:Int))=false:=by simp;omega
    by_cases h8:n≤8
    ·have q2:decide ((n:Int)≤8)=true:=by simp;omega
     go_wp2_with ((with_reducible refine goJ rfl ?_);refine goP ?_)
     go_ret
     exact ⟨⟨_,rfl,fun _=>h8⟩,hL.below⟩
    ·have q2:decide ((n:Int)≤8)=false:=by simp;omega
     go_wp2_with ((with_reducible refine goJ rfl ?_);refine goP ?_)
     go_ret
     exact ⟨⟨_,rfl,fun h=>by cases h⟩,hL.below⟩
open Go.RowKit
def MarkOut (i:Itm) (Wi Hi:Int) (w:World) (e:Ending) (w':World):Prop :=
 ((mayItm i&&(isSide Wi&&isSide Hi))=true→∃ W H:Nat,Wi=W∧Hi=H∧Sides W H∧PixOut W H (markP i) w e w') ∧
 ((mayItm i&&(isSide Wi&&isSide Hi))=false→e=.returned (.tuple #[.agg #[.int .i64 0,.int .i64 0,.slice none 0 0],.int .i64 1])∧Below w.heap.size w w')
def markReg (i:Itm) (Wi Hi:Int):Reg:=if mayItm i&&(isSide Wi&&isSide Hi) then pixReg Wi.toNat Hi.toNat (markP i) else noReg
def markErr (i:Itm) (Wi Hi:Int):Int:=if mayItm i&&(isSide Wi&&isSide Hi) then 0 else 1
theorem MarkOut.any {i:Itm} {Wi Hi:Int} {w:World} {e:Ending} {w':World} (h:MarkOut i Wi Hi w e w'):RegOut (markReg i Wi Hi) (markErr i Wi Hi) w e w':=by
 unfold markReg markErr
 cases hs:(mayItm i&&(isSide Wi&&isSide Hi)) with
 | true =>
  obtain ⟨W,H,rfl,rfl,_,sa,sn,sc,rfl,hb,hf⟩:=h.1 hs
  exact ⟨_,rfl,hb,hf⟩
 | false =>
  obtain ⟨rfl,hb⟩:=h.2 hs
  exact ⟨_,rfl,hb,Fresh.triv _ _ noReg_at⟩
def pgW (l:List Itm) (Wi Hi v:Int):Int:=if paintErr l Wi Hi=0 then v else 0
def pgB (l:List Itm) (Wi Hi:Int):List Int:=if paintErr l Wi Hi=0 then (List.range (3*Wi.toNat*Hi.toNat)).map (paintL Wi.toNat l) else []
def PgOut (l:List Itm) (Wi Hi:Int) (w:World) (e:Ending) (w':World):Prop :=
 ∃ a n c,e=.returned (.tuple #[.agg #[.int .i64 (pgW l Wi Hi Wi),.int .i64 (pgW l Wi Hi Hi),.slice a n c],.int .i64 (paintErr l Wi Hi)])∧Below w.heap.size w w'∧Fresh w w' (fun w=>BytesAt w (.slice a n c) (pgB l Wi Hi))
theorem PaintOut.any {l:List Itm} {Wi Hi:Int} {w:World} {e:Ending} {w':World} (h:PaintOut l Wi Hi w e w'):PgOut l Wi Hi w e w':=by
 unfold PgOut pgW pgB
 by_cases h0:paintErr l Wi Hi=0
 ·obtain ⟨W,H,rfl,rfl,_,a,c,rfl,hb,hf⟩:=h.1 h0
  rw [if_pos h0,if_pos h0,if_pos h0,h0]
  refine ⟨a,_,c,rfl,hb,hf.mono fun w2 h2=>?_⟩
  obtain ⟨s,e,h2⟩:=h2
  cases e
  exact h2
 ·obtain ⟨rfl,hb⟩:=h.2 h0
  rw [if_neg h0,if_neg h0,if_neg h0]
  exact ⟨none,0,0,rfl,hb,Fresh.triv _ _ bytes_none⟩
end Go.Proofs.YtmnoeoecjfhhbaaGreat
