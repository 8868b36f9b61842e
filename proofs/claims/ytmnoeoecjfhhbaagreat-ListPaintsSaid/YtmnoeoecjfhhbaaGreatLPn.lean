/- ListPaints returns true. -/
import Derived.Test.YtmnoeoecjfhhbaaGreatRfA
import Derived.Test.YtmnoeoecjfhhbaaGreatLMk
namespace Go.Proofs.YtmnoeoecjfhhbaaGreat
open Go.RowKit
def bdB (l:List Itm) (Wi Hi f t:Int):List Int:=if paintErr l Wi Hi=0 then (List.range (3*Wi.toNat*Hi.toNat)).map (bandF Wi.toNat f t (paintL Wi.toNat l)) else []
def BdOut (l:List Itm) (Wi Hi f t:Int) (w:World) (e:Ending) (w':World):Prop :=
 ∃ a n c,e=.returned (.tuple #[.agg #[.int .i64 (pgW l Wi Hi Wi),.int .i64 (pgW l Wi Hi Hi),.slice a n c],.int .i64 (paintErr l Wi Hi)])∧Below w.heap.size w w'∧Fresh w w' (fun w=>BytesAt w (.slice a n c) (bdB l Wi Hi f t))
theorem bdOut {l:List Itm} {Wi Hi f t:Int} {w:World} {fn:Nat} {args:Array Value} (h1:∀ W H:Nat,Wi=W→Hi=H→Sides W H→paintErr l Wi Hi=0→Calls Tryz.prog fn args w (PageOut W H (bandF W f t (paintL W l)) w)) (h2:paintErr l Wi Hi≠0→Calls Tryz.prog fn args w fun e w'=>e=.returned (.tuple #[.agg #[.int .i64 0,.int .i64 0,.slice none 0 0],.int .i64 (paintErr l Wi Hi)])∧Below w.heap.size w w'):Calls Tryz.prog fn args w (BdOut l Wi Hi f t w):=by
 by_cases h0:paintErr l Wi Hi=0
 ·obtain ⟨_,g1,g2,_⟩:=paint_ok h0
  unfold isSide at g1 g2
  simp only [Bool.and_eq_true,decide_eq_true_iff] at g1 g2
  obtain ⟨W,rfl⟩:=Int.eq_ofNat_of_zero_le (show 0≤Wi by omega)
  obtain ⟨H,rfl⟩:=Int.eq_ofNat_of_zero_le (show 0≤Hi by omega)
  have hS:Sides W H:=⟨by omega,by omega,by omega,by omega⟩
  refine (h1 W H rfl rfl hS h0).mono fun e w' h=>?_
  unfold BdOut pgW bdB
  rw [if_pos h0,if_pos h0,if_pos h0,h0]
  obtain ⟨a,c,rfl,hb,hf⟩:=h
  refine ⟨a,_,c,rfl,hb,hf.mono fun w2 h2=>?_⟩
  obtain ⟨s,e,h2⟩:=h2
  cases e
  exact h2
 ·refine (h2 h0).mono fun e w' h=>?_
  obtain ⟨rfl,hb⟩:=h
  unfold BdOut pgW bdB
  rw [if_neg h0,if_neg h0,if_neg h0]
  exact ⟨none,0,0,rfl,hb,Fresh.triv _ _ bytes_none⟩
theorem page_err {l:List Itm} {Wi Hi:Int} (h0:paintErr l Wi Hi≠0) {w:World} {e:Ending} {w':World} (h:PaintOut l Wi Hi w e w'):e=.returned (.tuple #[.agg #[.int .i64 0,.int .i64 0,.slice none 0 0],.int .i64 (paintErr l Wi Hi)])∧Below w.heap.size w w':=h.2 h0
theorem listBandAny {how:Int} (Wy:Way how) (w:World) (v:Value) (l:List Itm) (hv:ItmsAt w v l) (Wi Hi f t:Int):Calls Tryz.prog 25 #[v,.int .i64 Wi,.int .i64 Hi,.int .i64 f,.int .i64 t,.int .i64 how] w (BdOut l Wi Hi f t w) :=
 bdOut (fun W H h1 h2 hS h0=>by subst h1;subst h2;exact listBand_ok Wy hS w v l hv (fun _ _ _=>trivial) h0 f t) (fun h0=>listBand_no how w v Wi Hi _ h0 (fun w' hb=>(listPaint_calls Wy w' v l (hv.below hb) Wi Hi).mono fun e w2 h=>page_err h0 h) f t)
theorem rfBandAny (w:World) (v:Value) (l:List Itm) (hv:ItmsAt w v l) (hn8:l.length≤8) (Wi Hi f t:Int):Calls Tryz.prog 26 #[v,.int .i64 Wi,.int .i64 Hi,.int .i64 f,.int .i64 t] w (BdOut l Wi Hi f t w) :=
 bdOut (fun W H h1 h2 hS h0=>by subst h1;subst h2;exact rfBand_core hS w v _ (fun w' hb=>(rfPaint_calls w' v l (hv.below hb) hn8 (W:Int) (H:Int)).mono fun e w2 h=>page_ok rfl (Nat.mul_pos (Nat.mul_pos (by decide) hS.w0) hS.h0) h h0) f t) (fun h0=>rfBand_no w v Wi Hi _ h0 (fun w' hb=>(rfPaint_calls w' v l (hv.below hb) hn8 Wi Hi).mono fun e w2 h=>page_err h0 h) f t)
set_option maxRecDepth 100000 in
set_option maxHeartbeats 16000000 in
theorem listPaints_calls (w:World) (v:Value) (l:List Itm) (hv:ItmsAt w v l) (Wi Hi f t:Int) (line:Bool):Calls Tryz.prog 5 #[v,.int .i64 Wi,.int .i64 Hi,.int .i64 f,.int .i64 t,.bool line] w fun e w'=>e=.returned (.bool true)∧Below w.heap.size w w':=by
 have HFw:=Lib.hid (fun w' (hb:Below w.heap.size w w')=>few_calls w' _ l (hv.below hb))
 have HP:=Lib.hid (fun how w' (hb:Below w.heap.size w w')=>(listPaint_calls (wayAny how) w' _ l (hv.below hb) Wi Hi).mono fun e w2 h=>PaintOut.any h)
 have HPr:=Lib.hid (fun (h8:l.length≤8) w' (hb:Below w.heap.size w w')=>(rfPaint_calls w' _ l (hv.below hb) h8 Wi Hi).mono fun e w2 h=>PaintOut.any h)
 have HB:=Lib.hid (fun how w' (hb:Below w.heap.size w w')=>listBandAny (wayAny how) w' _ l (hv.below hb) Wi Hi f t)
 have HBr:=Lib.hid (fun (h8:l.length≤8) w' (hb:Below w.heap.size w w')=>rfBandAny w' _ l (hv.below hb) h8 Wi Hi f t)
 obtain ⟨a,cap,rfl,hlc,hcm,_⟩:=hv
 unfold maxLen at hcm
 unfold PgOut at HP HPr
 unfold BdOut at HB HBr
 generalize pgW l Wi Hi Wi=gx at *
 generalize pgW l Wi Hi Hi=gy at *
 generalize hpb:pgB l Wi Hi=pb at *
 clear hpb
 generalize hbb:bdB l Wi Hi f t=bb at *
 clear hbb
 generalize paintErr l Wi Hi=E at *
 have HPg:=Lib.hid (fun w' (v u:Value) (h:BytesAt w' v pb) (k:BytesAt w' u pb)=>helpPage_calls w' gx gy v u pb h k)
 have HBg:=Lib.hid (fun w' (v u:Value) (h:BytesAt w' v bb) (k:BytesAt w' u bb)=>helpPage_calls w' gx gy v u bb h k)
 have eE:(E == E)=true:=beq_self_eq_true E
 have hL:=Holds.start w
 generalize l.length=n at *
 cases line
 all_goals
  obtain ⟨n1,n2,n3,n4⟩:=tok4
  go_enter Tryz.func5,Tryz.ntmps5
  go_wp2_with (go_at_call 11;(with_reducible refine (known_calls _).mono ?_);rintro e _ ⟨rfl,hb⟩;replace hL:=hL.call hb;clear hb)
  refine (HFw.out _ hL.below).mono ?_
  rintro e _ ⟨⟨bf,rfl,h8⟩,hb⟩
  replace hL:=hL.call hb
  clear hb
  cases bf
  ·go_wp2_with (first|(with_reducible first|(clear hL n1;intro b1 w1 hL)|(clear hL n2;intro b2 w2 hL)|(clear hL n3;intro b3 w3 hL)|(clear hL n4;intro b4 w4 hL)|(clear hL;intro _ _ hL)|(clear hL;intro _ hL))|((with_reducible refine goJ rfl ?_);refine goP ?_))
   go_ret
   exact ⟨rfl,hL.below⟩
  replace h8:=Lib.hid (h8 rfl)
  go_wp2_with (first|(go_at_call 22;(with_reducible refine (HP.out _ _ hL.below).mono ?_);rintro e _ ⟨qa,qn,qc,rfl,hb,hf⟩;replace hL:=hL.callF hb hf;clear hb hf)|(go_at_call 24;(with_reducible refine (HPr.out h8.out _ hL.below).mono ?_);rintro e _ ⟨ra,rn,rc,rfl,hb,hf⟩;replace hL:=hL.callF hb hf;clear hb hf)|(go_at_call 25;(with_reducible refine (HB.out _ _ hL.below).mono ?_);rintro e _ ⟨sa,sn,sc,rfl,hb,hf⟩;replace hL:=hL.callF hb hf;clear hb hf)|(go_at_call 26;(with_reducible refine (HBr.out h8.out _ hL.below).mono ?_);rintro e _ ⟨ta,tn,tc,rfl,hb,hf⟩;replace hL:=hL.callF hb hf;clear hb hf)|(go_at_call 23;(with_reducible first|refine (HPg.out _ _ _ hL.fact3 hL.fact2).mono ?_|refine (HBg.out _ _ _ hL.fact1 hL.fact0).mono ?_);rintro e _ ⟨rfl,hb⟩;replace hL:=hL.call hb;clear hb)|(with_reducible first|(clear hL n1;intro b1 w1 hL)|(clear hL n2;intro b2 w2 hL)|(clear hL n3;intro b3 w3 hL)|(clear hL n4;intro b4 w4 hL)|(clear hL;intro _ hL))|((with_reducible refine goJ rfl ?_);refine goP ?_))
  go_ret
  exact ⟨ret_bool (by simp),hL.below⟩
end Go.Proofs.YtmnoeoecjfhhbaaGreat
