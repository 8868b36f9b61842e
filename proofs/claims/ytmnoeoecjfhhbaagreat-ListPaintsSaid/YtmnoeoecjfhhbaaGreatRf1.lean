/- The document's edges: the walk. -/
import Derived.Test.YtmnoeoecjfhhbaaGreatSgnM
import Derived.Test.YtmnoeoecjfhhbaaGreatCtrM
namespace Go.Proofs.YtmnoeoecjfhhbaaGreat
open Go.RowKit
theorem refIsCoord_calls (v:Int) (w:World):Calls Tryz.prog 119 #[.int .i64 v] w fun e w'=>e=.returned (.bool (near1 v))∧w=w':=by
 rcases (by omega:v < -8191∨8191<v∨(-8191≤v∧v≤8191)) with h|h|⟨h,h2⟩
 all_goals
  go_enter Tryz.func119,Tryz.ntmps119
  go_wp2
  go_ret
  exact ⟨ret_bool (by simp [near1];omega),rfl⟩
theorem refCoords_calls (a b:Int) (w:World):Calls Tryz.prog 128 #[.int .i64 a,.int .i64 b] w fun e w'=>e=.returned (.bool (near1 a&&near1 b))∧w=w':=by
 have HA:=Lib.hid (fun w=>refIsCoord_calls a w)
 have HB:=Lib.hid (fun w=>refIsCoord_calls b w)
 generalize near1 a=x at *
 generalize near1 b=y at *
 cases x <;> cases y
 all_goals
  go_enter Tryz.func128,Tryz.ntmps128
  go_wp2_with (go_at_call 119;(first|((with_reducible refine (HA.out _).mono ?_);rintro e _ ⟨rfl,rfl⟩)|((with_reducible refine (HB.out _).mono ?_);rintro e _ ⟨rfl,rfl⟩)))
  go_ret
  exact ⟨rfl,rfl⟩
set_option maxRecDepth 100000 in
set_option maxHeartbeats 2000000 in
theorem refIsEdge_calls (e:Edg) (w:World):Calls Tryz.prog 144 #[edgeV e] w fun r w'=>r=.returned (.bool (mayE e))∧Below w.heap.size w w':=by
 obtain ⟨x0,y0,bt,cx,cy,x1,y1⟩:=e
 have hL:=Holds.start w
 have H1:=Lib.hid (fun w=>refCoords_calls x0 y0 w)
 have H2:=Lib.hid (fun w=>refCoords_calls cx cy w)
 have H3:=Lib.hid (fun w=>refCoords_calls x1 y1 w)
 unfold edgeV
 dsimp only
 cases bt with
 | true =>
  have HM:=Lib.hid (show mayE ⟨x0,y0,true,cx,cy,x1,y1⟩=((near1 x0&&near1 y0)&&((near1 cx&&near1 cy)&&(near1 x1&&near1 y1))) by simp [mayE,Bool.and_assoc])
  generalize mayE ⟨x0,y0,true,cx,cy,x1,y1⟩=m at *
  generalize (near1 x0&&near1 y0)=c1 at *
  generalize (near1 cx&&near1 cy)=c2 at *
  generalize (near1 x1&&near1 y1)=c3 at *
  cases c1 <;> cases c2 <;> cases c3
  all_goals
   have n1:True:=trivial
   go_enter Tryz.func144,Tryz.ntmps144
   go_wp2_with (first|(go_at_call 128;(first|((with_reducible refine (H1.out _).mono ?_);rintro e _ ⟨rfl,rfl⟩)|((with_reducible refine (H2.out _).mono ?_);rintro e _ ⟨rfl,rfl⟩)|((with_reducible refine (H3.out _).mono ?_);rintro e _ ⟨rfl,rfl⟩)))|(with_reducible (clear hL n1;intro b1 w1 hL))|((with_reducible refine goJ rfl ?_);refine goW ?_))
   go_ret
   exact ⟨ret_bool (by rw [HM.out];rfl),hL.below⟩
 | false =>
  rcases (by omega:cx≠0∨(cx=0∧cy≠0)∨(cx=0∧cy=0)) with h|⟨h,h2⟩|⟨h,h2⟩
  ·have HM:=Lib.hid (show mayE ⟨x0,y0,false,cx,cy,x1,y1⟩=false by simp [mayE,h])
   have d1:(cx == 0)=false:=by simp [h]
   generalize mayE ⟨x0,y0,false,cx,cy,x1,y1⟩=m at *
   generalize (near1 x0&&near1 y0)=c1 at *
   generalize (near1 x1&&near1 y1)=c3 at *
   cases c1 <;> cases c3
   all_goals
    have n1:True:=trivial
    go_enter Tryz.func144,Tryz.ntmps144
    go_wp2_with (first|(go_at_call 128;(first|((with_reducible refine (H1.out _).mono ?_);rintro e _ ⟨rfl,rfl⟩)|((with_reducible refine (H3.out _).mono ?_);rintro e _ ⟨rfl,rfl⟩)))|(with_reducible (clear hL n1;intro b1 w1 hL))|((with_reducible refine goJ rfl ?_);refine goW ?_))
    go_ret
    exact ⟨ret_bool HM.out.symm,hL.below⟩
  ·subst h
   have HM:=Lib.hid (show mayE ⟨x0,y0,false,0,cy,x1,y1⟩=false by simp [mayE,h2])
   have d1:(cy == 0)=false:=by simp [h2]
   generalize mayE ⟨x0,y0,false,0,cy,x1,y1⟩=m at *
   generalize (near1 x0&&near1 y0)=c1 at *
   generalize (near1 x1&&near1 y1)=c3 at *
   cases c1 <;> cases c3
   all_goals
    have n1:True:=trivial
    go_enter Tryz.func144,Tryz.ntmps144
    go_wp2_with (first|(go_at_call 128;(first|((with_reducible refine (H1.out _).mono ?_);rintro e _ ⟨rfl,rfl⟩)|((with_reducible refine (H3.out _).mono ?_);rintro e _ ⟨rfl,rfl⟩)))|(with_reducible (clear hL n1;intro b1 w1 hL))|((with_reducible refine goJ rfl ?_);refine goW ?_))
    go_ret
    exact ⟨ret_bool HM.out.symm,hL.below⟩
  ·subst h;subst h2
   have HM:=Lib.hid (show mayE ⟨x0,y0,false,0,0,x1,y1⟩=((near1 x0&&near1 y0)&&(near1 x1&&near1 y1)) by
    have h0:near1 0=true:=by decide
    simp [mayE,h0,Bool.and_assoc])
   generalize mayE ⟨x0,y0,false,0,0,x1,y1⟩=m at *
   generalize (near1 x0&&near1 y0)=c1 at *
   generalize (near1 x1&&near1 y1)=c3 at *
   cases c1 <;> cases c3
   all_goals
    have n1:True:=trivial
    go_enter Tryz.func144,Tryz.ntmps144
    go_wp2_with (first|(go_at_call 128;(first|((with_reducible refine (H1.out _).mono ?_);rintro e _ ⟨rfl,rfl⟩)|((with_reducible refine (H3.out _).mono ?_);rintro e _ ⟨rfl,rfl⟩)))|(with_reducible (clear hL n1;intro b1 w1 hL))|((with_reducible refine goJ rfl ?_);refine goW ?_))
    go_ret
    exact ⟨ret_bool (by rw [HM.out];rfl),hL.below⟩
open Go.RowKit
theorem rCoords_calls (x y:Int) (w:World):Calls Tryz.prog 128 #[.int .i64 x,.int .i64 y] w fun e w'=>e=.returned (.bool (near1 x&&near1 y))∧Below w.heap.size w w':=by
 have hL:=Holds.start w
 have HX:=Lib.hid (fun w=>refIsCoord_calls x w)
 have HY:=Lib.hid (fun w=>refIsCoord_calls y w)
 generalize near1 x=a at *
 generalize near1 y=b at *
 cases a <;> cases b
 all_goals
  go_enter Tryz.func128,Tryz.ntmps128
  go_wp2_with (go_at_call 119;(with_reducible first|refine (HX.out _).mono ?_|refine (HY.out _).mono ?_);rintro e _ ⟨rfl,rfl⟩)
  go_ret
  exact ⟨rfl,hL.below⟩
def pieceS (s:Sg):Bool:=if s.kind=1∨s.kind=2 then (near1 s.x&&near1 s.y)&&(decide (s.cx=0)&&decide (s.cy=0)) else if s.kind=3 then (near1 s.x&&near1 s.y)&&(near1 s.cx&&near1 s.cy) else if s.kind=4 then decide (s.x=0)&&(decide (s.y=0)&&(decide (s.cx=0)&&decide (s.cy=0))) else false
theorem right_piece (s:Sg) (last:Int):rightS s last=(pieceS s&&(!((decide (last=0) || decide (last=4))&&!decide (s.kind=1))&&!(decide (s.kind=1)&&decide (last=1)))):=by
 have z:near1 0=true:=by decide
 unfold rightS pieceS
 by_cases h1:s.kind=1
 ·by_cases hx:s.cx=0 <;> by_cases hy:s.cy=0 <;> by_cases hl:last=1 <;> simp [h1,hx,hy,hl,z]
 ·by_cases h2:s.kind=2
  ·by_cases hx:s.cx=0 <;> by_cases hy:s.cy=0 <;> by_cases hl:last=0 <;> by_cases hl4:last=4 <;> simp [h2,hx,hy,hl,hl4,z]
  ·by_cases h3:s.kind=3
   ·by_cases hl:last=0 <;> by_cases hl4:last=4 <;> simp [h3,hl,hl4,Bool.and_assoc]
   ·by_cases h4:s.kind=4
    ·by_cases hx:s.cx=0 <;> by_cases hy:s.cy=0 <;> by_cases hx2:s.x=0 <;> by_cases hy2:s.y=0 <;> by_cases hl:last=0 <;> by_cases hl4:last=4 <;> simp [h4,hx,hy,hx2,hy2,hl,hl4,z]
    ·simp [h1,h2,h3,h4]
set_option maxRecDepth 100000 in
set_option maxHeartbeats 2000000 in
theorem rPiece_calls (s:Sg) (w:World):Calls Tryz.prog 89 #[segV s] w fun e w'=>e=.returned (.bool (pieceS s))∧Below w.heap.size w w':=by
 have hL:=Holds.start w
 obtain ⟨kind,x,y,cx,cy⟩:=s
 have H1:=Lib.hid (fun w=>rCoords_calls x y w)
 have H2:=Lib.hid (fun w=>rCoords_calls cx cy w)
 unfold segV pieceS
 dsimp only
 rcases (by omega:kind=1∨kind=2∨kind=3∨kind=4∨(kind≠1∧kind≠2∧kind≠3∧kind≠4)) with h|h|h|h|⟨h1,h2,h3,h4⟩
 ·subst h
  have HR:=Lib.hid (show (if (1:Int)=1∨(1:Int)=2 then (near1 x&&near1 y)&&(decide (cx=0)&&decide (cy=0)) else if (1:Int)=3 then (near1 x&&near1 y)&&(near1 cx&&near1 cy) else if (1:Int)=4 then decide (x=0)&&(decide (y=0)&&(decide (cx=0)&&decide (cy=0))) else false)=((near1 x&&near1 y)&&(decide (cx=0)&&decide (cy=0))) by simp)
  rw [HR.out]
  clear HR
  generalize (near1 x&&near1 y)=a at *
  cases a <;> by_cases e1:cx=0 <;> by_cases e2:cy=0
  all_goals
   try subst e1
   try subst e2
   try (have d1:(cx == 0)=false:=by simp [e1])
   try (have d2:(cy == 0)=false:=by simp [e2])
   have n1:True:=trivial
   go_enter Tryz.func89,Tryz.ntmps89
   go_wp2_with (first|(go_at_call 128;(with_reducible refine (H1.out _).mono ?_);rintro e _ ⟨rfl,hb⟩;replace hL:=hL.call hb;clear hb)|(with_reducible (clear hL n1;intro b1 w1 hL))|((with_reducible refine goJ rfl ?_);refine goW ?_))
   go_ret
   exact ⟨ret_bool (by simp [*]),hL.below⟩
 ·subst h
  have HR:=Lib.hid (show (if (2:Int)=1∨(2:Int)=2 then (near1 x&&near1 y)&&(decide (cx=0)&&decide (cy=0)) else if (2:Int)=3 then (near1 x&&near1 y)&&(near1 cx&&near1 cy) else if (2:Int)=4 then decide (x=0)&&(decide (y=0)&&(decide (cx=0)&&decide (cy=0))) else false)=((near1 x&&near1 y)&&(decide (cx=0)&&decide (cy=0))) by simp)
  rw [HR.out]
  clear HR
  generalize (near1 x&&near1 y)=a at *
  cases a <;> by_cases e1:cx=0 <;> by_cases e2:cy=0
  all_goals
   try subst e1
   try subst e2
   try (have d1:(cx == 0)=false:=by simp [e1])
   try (have d2:(cy == 0)=false:=by simp [e2])
   have n1:True:=trivial
   go_enter Tryz.func89,Tryz.ntmps89
   go_wp2_with (first|(go_at_call 128;(with_reducible refine (H1.out _).mono ?_);rintro e _ ⟨rfl,hb⟩;replace hL:=hL.call hb;clear hb)|(with_reducible (clear hL n1;intro b1 w1 hL))|((with_reducible refine goJ rfl ?_);refine goW ?_))
   go_ret
   exact ⟨ret_bool (by simp [*]),hL.below⟩
 ·subst h
  have HR:=Lib.hid (show (if (3:Int)=1∨(3:Int)=2 then (near1 x&&near1 y)&&(decide (cx=0)&&decide (cy=0)) else if (3:Int)=3 then (near1 x&&near1 y)&&(near1 cx&&near1 cy) else if (3:Int)=4 then decide (x=0)&&(decide (y=0)&&(decide (cx=0)&&decide (cy=0))) else false)=((near1 x&&near1 y)&&(near1 cx&&near1 cy)) by simp)
  rw [HR.out]
  clear HR
  generalize (near1 x&&near1 y)=a at *
  generalize (near1 cx&&near1 cy)=b at *
  cases a <;> cases b
  all_goals
   have n1:True:=trivial
   go_enter Tryz.func89,Tryz.ntmps89
   go_wp2_with (first|(go_at_call 128;(with_reducible first|refine (H1.out _).mono ?_|refine (H2.out _).mono ?_);rintro e _ ⟨rfl,hb⟩;replace hL:=hL.call hb;clear hb)|(with_reducible (clear hL n1;intro b1 w1 hL))|((with_reducible refine goJ rfl ?_);refine goW ?_))
   go_ret
   exact ⟨ret_bool (by simp),hL.below⟩
 ·subst h
  have HR:=Lib.hid (show (if (4:Int)=1∨(4:Int)=2 then (near1 x&&near1 y)&&(decide (cx=0)&&decide (cy=0)) else if (4:Int)=3 then (near1 x&&near1 y)&&(near1 cx&&near1 cy) else if (4:Int)=4 then decide (x=0)&&(decide (y=0)&&(decide (cx=0)&&decide (cy=0))) else false)=(decide (x=0)&&(decide (y=0)&&(decide (cx=0)&&decide (cy=0)))) by simp)
  rw [HR.out]
  clear HR
  have n1:True:=trivial
  go_enter Tryz.func89,Tryz.ntmps89
  go_wp2_with (first|(with_reducible (clear hL n1;intro b1 w1 hL))|((with_reducible refine goJ rfl ?_);refine goW ?_))
  all_goals
   go_ret
   exact ⟨ret_bool (by simp [*]),hL.below⟩
 ·have d1:(kind == 1)=false:=by simp [h1]
  have d2:(kind == 2)=false:=by simp [h2]
  have d3:(kind == 3)=false:=by simp [h3]
  have d4:(kind == 4)=false:=by simp [h4]
  have n1:True:=trivial
  go_enter Tryz.func89,Tryz.ntmps89
  go_wp2_with (first|(with_reducible (clear hL n1;intro b1 w1 hL))|((with_reducible refine goJ rfl ?_);refine goW ?_))
  go_ret
  exact ⟨ret_bool (by simp),hL.below⟩
set_option maxRecDepth 100000 in
set_option maxHeartbeats 8000000 in
theorem rMay_calls (w:World) (v:Value) (l:List Sg) (hv:SegsAt w v l):Calls Tryz.prog 52 #[v] w fun e w'=>e=.returned (.bool (pathMay l))∧Below w.heap.size w w':=by
 obtain ⟨a,cap,rfl,hlc,hcm,hel⟩:=hv.parts
 clear hv
 unfold maxLen at hcm
 have Hel:=Lib.hid hel;clear hel
 have hL:=Holds.start w
 by_cases hbig:(300:Int)<(l.length:Int)
 ·have HR:=Lib.hid (show pathMay l=false by unfold pathMay;rw [decide_eq_false (by omega)];rfl)
  generalize pathMay l=R at *
  go_enter Tryz.func52,Tryz.ntmps52
  go_wp2_with (first|((with_reducible refine goJ rfl ?_);refine goW ?_))
  go_ret
  exact ⟨ret_bool HR.out.symm,hL.below⟩
 ·have HR:=Lib.hid (show pathMay l=maySF 0 l by unfold pathMay;rw [decide_eq_true (by omega)];rfl)
  generalize pathMay l=R at *
  go_enter Tryz.func52,Tryz.ntmps52
  go_wp2_with (first|((with_reducible refine goJ rfl ?_);refine goW ?_))
  go_loopw [3] (fun s3 wr=>∃ k:Nat,k≤l.length∧s3=.int .i64 k∧(k=0∨lastK l k≠0)∧maySF 0 l=maySF (lastK l k) (l.drop k)∧Holds w wr [] [])
   (fun s3 wr=>l.length-(intOf s3).toNat)
  case atStart=>exact ⟨0,by omega,rfl,.inl rfl,rfl,hL⟩
  case round =>
   clear hL
   obtain ⟨k,hk,rfl,hz,hm,hL⟩:=hrel
   by_cases hkt:k<l.length
   ·obtain ⟨b,o,rfl,hc⟩:=Hel.out k hkt
    have hprev:k≠0→w.cell? ⟨b,o+(k-1)*5,none⟩=some (.int .i64 (lastK l k)):=fun h0=>by
     obtain ⟨b',o',e,hc'⟩:=Hel.out (k-1) (by omega)
     injection e with e
     injection e with e1 e2
     subst e1;subst e2
     have:=hc' 0 _ rfl
     rw [Nat.add_zero] at this
     rw [this]
     unfold lastK
     rw [if_neg h0]
    rw [maySF_step hkt] at hm
    have Hm:=Lib.hid hm;clear hm
    have HLs:=Lib.hid (lastK_succ l k)
    have hrp:=right_piece (l.getD k default) (lastK l k)
    have HC:=Lib.hid (fun w=>rPiece_calls (l.getD k default) w)
    have hl00:k=0→lastK l k=0:=fun h=>by subst h;rfl
    have hkd:rightS (l.getD k default) (lastK l k)=true→(l.getD k default).kind≠0:=fun h=>by have:=rightS_kind h;omega
    generalize maySF 0 l=T at *
    generalize lastK l k=la at *
    generalize l.getD k default=s at *
    generalize rightS s la=r at *
    generalize pieceS s=p at *
    obtain ⟨kind,x,y,cx,cy⟩:=s
    unfold segV at HC
    unfold segC at hc
    dsimp only at HC hc HLs hrp hkd
    have hk5:w.cell? ⟨b,o+k*5,none⟩=some (.int .i64 kind):=by have:=hc 0 _ rfl;simpa using this
    have hkb:(k:Int)<(l.length:Int):=by omega
    have HRP:=Lib.hid hrp
    have HKD:=Lib.hid hkd
    clear hrp hkd
    have DONE:True:=trivial
    rcases Nat.eq_zero_or_pos k with h0|h0
    ·have hla0:=hl00 h0
     have f0:((k:Int) == 0)=true:=by rw [beq_iff_eq];omega
     have f00:decide ((0:Int)<(k:Int))=false:=decide_eq_false (by omega)
     have f01:decide (0<k)=false:=decide_eq_false (by omega)
     clear hprev hl00 h0 hz
     subst hla0
     cases p with
     | false =>
      have hr:r=false:=by rw [HRP.out];simp []
      have HRf:=Lib.hid (show T=false by rw [Hm.out,hr];rfl)
      clear hr HRP HKD
      go_wp2_with (first|(go_at_call 89;(with_reducible refine (HC.out _).mono ?_);rintro e _ ⟨rfl,hb⟩;replace hL:=hL.call hb;clear hb)|((with_reducible refine goJ rfl ?_);refine goW ?_))
      go_ret
      exact ⟨ret_bool (by rw [HR.out,HRf.out]),hL.below⟩
     | true =>
      by_cases h1:kind=1
      ·subst h1
       have hr:r=true:=by rw [HRP.out];simp []
       have HRt:=Lib.hid (show T=maySF 1 (l.drop (k+1)) by rw [Hm.out,hr];rfl)
       have hkn:=HKD.out hr
       clear hr HRP HKD
       go_wp2_with (first|(go_at_call 89;(with_reducible refine (HC.out _).mono ?_);rintro e _ ⟨rfl,hb⟩;replace hL:=hL.call hb;clear hb)|((with_reducible refine goJ rfl ?_);refine goW ?_))
       go_roundw
       case rel=>exact ⟨k+1,by omega,by go_num,.inr (by rw [HLs.out];exact hkn),by rw [HRt.out,HLs.out],hL⟩
       case measure=>simp [intOf];omega
      ·have f1:(kind == 1)=false:=by simp [h1]
       have hr:r=false:=by rw [HRP.out];simp [h1]
       have HRf:=Lib.hid (show T=false by rw [Hm.out,hr];rfl)
       clear hr HRP HKD
       go_wp2_with (first|(go_at_call 89;(with_reducible refine (HC.out _).mono ?_);rintro e _ ⟨rfl,hb⟩;replace hL:=hL.call hb;clear hb)|((with_reducible refine goJ rfl ?_);refine goW ?_))
       go_ret
       exact ⟨ret_bool (by rw [HR.out,HRf.out]),hL.below⟩
    ·obtain ⟨k',rfl⟩:∃ k',k=k'+1:=⟨k-1,by omega⟩
     have hp5:=hprev (by omega)
     rw [show k'+1-1=k' by omega] at hp5
     have hla0:la≠0:=by
      rcases hz with h|h
      ·omega
      ·exact h
     clear hprev hl00
     cases p with
     | false =>
      by_cases h1:kind=1
      ·subst h1
       have hr:r=false:=by rw [HRP.out];simp []
       have HRf:=Lib.hid (show T=false by rw [Hm.out,hr];rfl)
       clear hr HRP HKD
       go_wp2_with (first|(go_at_call 89;(with_reducible refine (HC.out _).mono ?_);rintro e _ ⟨rfl,hb⟩;replace hL:=hL.call hb;clear hb)|((with_reducible refine goJ rfl ?_);refine goW ?_))
       go_ret
       exact ⟨ret_bool (by rw [HR.out,HRf.out]),hL.below⟩
      ·have f1:(kind == 1)=false:=by simp [h1]
       by_cases h4:la=4
       ·subst h4
        have hr:r=false:=by rw [HRP.out];simp []
        have HRf:=Lib.hid (show T=false by rw [Hm.out,hr];rfl)
        clear hr HRP HKD
        go_wp2_with (first|(go_at_call 89;(with_reducible refine (HC.out _).mono ?_);rintro e _ ⟨rfl,hb⟩;replace hL:=hL.call hb;clear hb)|((with_reducible refine goJ rfl ?_);refine goW ?_))
        go_ret
        exact ⟨ret_bool (by rw [HR.out,HRf.out]),hL.below⟩
       ·have f4:(la == 4)=false:=by simp [h4]
        have hr:r=false:=by rw [HRP.out];simp []
        have HRf:=Lib.hid (show T=false by rw [Hm.out,hr];rfl)
        clear hr HRP HKD
        go_wp2_with (first|(go_at_call 89;(with_reducible refine (HC.out _).mono ?_);rintro e _ ⟨rfl,hb⟩;replace hL:=hL.call hb;clear hb)|((with_reducible refine goJ rfl ?_);refine goW ?_))
        go_ret
        exact ⟨ret_bool (by rw [HR.out,HRf.out]),hL.below⟩
     | true =>
      by_cases h1:kind=1
      ·subst h1
       by_cases hl1:la=1
       ·subst hl1
        have hr:r=false:=by rw [HRP.out];simp []
        have HRf:=Lib.hid (show T=false by rw [Hm.out,hr];rfl)
        clear hr HRP HKD
        go_wp2_with (first|(go_at_call 89;(with_reducible refine (HC.out _).mono ?_);rintro e _ ⟨rfl,hb⟩;replace hL:=hL.call hb;clear hb)|((with_reducible refine goJ rfl ?_);refine goW ?_))
        go_ret
        exact ⟨ret_bool (by rw [HR.out,HRf.out]),hL.below⟩
       ·have f2:(la == 1)=false:=by simp [hl1]
        by_cases h4:la=4
        ·subst h4
         have hr:r=true:=by rw [HRP.out];simp []
         have HRt:=Lib.hid (show T=maySF 1 (l.drop ((k'+1)+1)) by rw [Hm.out,hr];rfl)
         have hkn:=HKD.out hr
         clear hr HRP HKD
         go_wp2_with (first|(go_at_call 89;(with_reducible refine (HC.out _).mono ?_);rintro e _ ⟨rfl,hb⟩;replace hL:=hL.call hb;clear hb)|((with_reducible refine goJ rfl ?_);refine goW ?_))
         go_roundw
         case rel=>exact ⟨(k'+1)+1,by omega,by go_num,.inr (by rw [HLs.out];exact hkn),by rw [HRt.out,HLs.out],hL⟩
         case measure=>simp [intOf];omega
        ·have f4:(la == 4)=false:=by simp [h4]
         have hr:r=true:=by rw [HRP.out];simp [hl1,h4]
         have HRt:=Lib.hid (show T=maySF 1 (l.drop ((k'+1)+1)) by rw [Hm.out,hr];rfl)
         have hkn:=HKD.out hr
         clear hr HRP HKD
         go_wp2_with (first|(go_at_call 89;(with_reducible refine (HC.out _).mono ?_);rintro e _ ⟨rfl,hb⟩;replace hL:=hL.call hb;clear hb)|((with_reducible refine goJ rfl ?_);refine goW ?_))
         go_roundw
         case rel=>exact ⟨(k'+1)+1,by omega,by go_num,.inr (by rw [HLs.out];exact hkn),by rw [HRt.out,HLs.out],hL⟩
         case measure=>simp [intOf];omega
      ·have f1:(kind == 1)=false:=by simp [h1]
       by_cases h4:la=4
       ·subst h4
        have hr:r=false:=by rw [HRP.out];simp [h1]
        have HRf:=Lib.hid (show T=false by rw [Hm.out,hr];rfl)
        clear hr HRP HKD
        go_wp2_with (first|(go_at_call 89;(with_reducible refine (HC.out _).mono ?_);rintro e _ ⟨rfl,hb⟩;replace hL:=hL.call hb;clear hb)|((with_reducible refine goJ rfl ?_);refine goW ?_))
        go_ret
        exact ⟨ret_bool (by rw [HR.out,HRf.out]),hL.below⟩
       ·have f4:(la == 4)=false:=by simp [h4]
        have hr:r=true:=by rw [HRP.out];simp [h1,h4,hla0]
        have HRt:=Lib.hid (show T=maySF kind (l.drop ((k'+1)+1)) by rw [Hm.out,hr];rfl)
        have hkn:=HKD.out hr
        clear hr HRP HKD
        go_wp2_with (first|(go_at_call 89;(with_reducible refine (HC.out _).mono ?_);rintro e _ ⟨rfl,hb⟩;replace hL:=hL.call hb;clear hb)|((with_reducible refine goJ rfl ?_);refine goW ?_))
        go_roundw
        case rel=>exact ⟨(k'+1)+1,by omega,by go_num,.inr (by rw [HLs.out];exact hkn),by rw [HRt.out,HLs.out],hL⟩
        case measure=>simp [intOf];omega
   ·have e:k=l.length:=by omega
    subst e
    rw [List.drop_length] at hm
    have Hm:=Lib.hid hm;clear hm
    go_wp2_with (first|((with_reducible refine goJ rfl ?_);refine goW ?_))
    go_ret
    exact ⟨ret_bool (by rw [HR.out,Hm.out];rfl),hL.below⟩
open Go.RowKit
theorem ctFold_shut {rest:List Sg} (h:maySF 4 rest=true) (done:List Ct) (c:Ct) (x y x' y':Int):ctFold rest done (some c) x y=ctFold rest done (some c) x' y':=by
 cases rest with
 | nil=>rfl
 | cons s rest =>
  have h1:s.kind=1:=by
   rw [maySF,Bool.and_eq_true] at h
   have hr:=h.1
   unfold rightS at hr
   by_cases h1:s.kind=1
   ·exact h1
   ·by_cases h4:s.kind=4 <;> by_cases h2:s.kind=2∨s.kind=3 <;> simp [h1,h4,h2] at hr
  rw [ctFold,ctFold,if_pos h1,if_pos h1]
def RtHeld (w wr:World) (s3:Value) (done:List Ct) (c:Ct):Prop:=∃ (vs:List Value) (ve:Value),vs.length=done.length ∧
 Holds w wr [own w.heap.size 177 7 ve c.edges.length (c.edges.map edgeC).flatten,own w.heap.size 173 4 s3 (done.length+1) ((List.zipWith ctC vs done).flatten++ctC ve c)] [fun w=>∀ i u,vs[i]?=some u→EdgesAt w u (done.getD i default).edges]
theorem RtHeld.settle {w wr:World} {s3:Value} {done:List Ct} {c:Ct} (h:RtHeld w wr s3 done c):∃ vs:List Value,vs.length=(done++[c]).length∧Holds w wr [own w.heap.size 173 4 s3 (done++[c]).length (List.zipWith ctC vs (done++[c])).flatten] [fun w=>∀ i u,vs[i]?=some u→EdgesAt w u ((done++[c]).getD i default).edges]:=by
 obtain ⟨vs,ve,hl,hL⟩:=h
 refine ⟨vs++[ve],by simp [hl],?_⟩
 have h1:=(hL.settle .here (φ:=fun w=>EdgesAt w ve c.edges) fun w h=>own_sliceAt h (by rw [List.length_map]) rfl (edgeC_len _)).join (χ:=fun w=>∀ i u,(vs++[ve])[i]?=some u→EdgesAt w u ((done++[c]).getD i default).edges) fun w h1 h2 i u hu=>by
  by_cases hi:i<vs.length
  ·rw [List.getElem?_append_left hi] at hu
   have:=h2 i u hu
   rwa [show (done++[c]).getD i default=done.getD i default by simp [List.getD,List.getElem?_append_left (show i<done.length by omega)]]
  ·rw [List.getElem?_append_right (by omega)] at hu
   have hi0:i-vs.length=0:=by
    have:=(List.getElem?_eq_some_iff.1 hu).1
    simp at this;omega
   rw [hi0] at hu
   simp at hu
   subst hu
   have hid:i=done.length:=by omega
   rwa [show (done++[c]).getD i default=c by simp [hid]]
 rw [List.zipWith_append hl,List.flatten_append]
 simpa using h1
set_option maxRecDepth 100000 in
set_option maxHeartbeats 8000000 in
theorem rContours_calls (w:World) (v:Value) (l:List Sg) (hv:SegsAt w v l):Calls Tryz.prog 122 #[v] w (CtsOut (contoursS l) w):=by
 have Hv:=Lib.hid hv
 obtain ⟨a,cap,rfl,hlc,hcm,hel⟩:=hv.parts
 clear hv
 unfold maxLen at hcm
 have Hel:=Lib.hid hel;clear hel
 have hL:=Holds.start w
 cases hm:pathMay l with
 | false =>
  have HR:=Lib.hid (show contoursS l=[] by unfold contoursS;rw [hm];rfl)
  have HM:=Lib.hid hm;clear hm
  generalize contoursS l=L at *
  go_enter Tryz.func122,Tryz.ntmps122
  go_wp2_with (first|(go_at_call 52;(with_reducible refine (rMay_calls _ _ l (Hv.out.hold hL)).mono ?_);rintro e _ ⟨rfl,hb⟩;rw [HM.out];replace hL:=hL.call hb;clear hb)|((with_reducible refine wpA_lit rfl _ _ _ rfl ?_);first|refine litA1 hL ?_|refine litA2 hL ?_|refine litA3 hL ?_|refine litA4 hL ?_|refine litA6 hL ?_))
  go_ret
  rw [HR.out]
  exact ⟨_,[],rfl,rfl,hL.below,(hL.triv (χ:=fun w=>CtsAt w (.slice none 0 0) [] []) fun w=>⟨⟨none,0,rfl,Nat.le_refl _,by unfold maxLen;omega,fun i hi=>by simp at hi⟩,fun i u hi=>by simp at hi⟩).fresh⟩
 | true =>
  have HR:=Lib.hid (show contoursS l=ctFold l [] none 0 0 by unfold contoursS;rw [hm];rfl)
  have hmm:l.length≤300∧maySF 0 l=true:=by simpa [pathMay] using hm
  obtain ⟨hl300,hmay⟩:=hmm
  have HM:=Lib.hid hm;clear hm
  have HMay:=Lib.hid hmay;clear hmay
  generalize contoursS l=L at *
  go_enter Tryz.func122,Tryz.ntmps122
  go_wp2_with (first|(go_at_call 52;(with_reducible refine (rMay_calls _ _ l (Hv.out.hold hL)).mono ?_);rintro e _ ⟨rfl,hb⟩;rw [HM.out];replace hL:=hL.call hb;clear hb)|((with_reducible refine wpA_lit rfl _ _ _ rfl ?_);first|refine litA1 hL ?_|refine litA2 hL ?_|refine litA3 hL ?_|refine litA4 hL ?_|refine litA6 hL ?_))
  go_loopw [3,4,5,6] (fun s3 s4 s5 s14 wr=>∃ (k:Nat) (x y:Int),k≤l.length∧s14=.int .i64 k∧s4=.int .i64 x∧s5=.int .i64 y∧maySF (lastK l k) (l.drop k)=true∧((k=0∧s3=.slice none 0 0∧L=ctFold l [] none x y∧Holds w wr [] [])∨(0<k∧∃ (done:List Ct) (c:Ct),L=ctFold (l.drop k) done (some c) x y∧done.length+1≤k∧c.edges.length≤k∧RtHeld w wr s3 done c)))
   (fun s3 s4 s5 s14 wr=>l.length-(intOf s14).toNat)
  case atStart=>exact ⟨0,0,0,by omega,rfl,rfl,rfl,HMay.out,.inl ⟨rfl,rfl,HR.out,hL⟩⟩
  case round =>
   clear hL
   obtain ⟨k,x,y,hk,rfl,rfl,rfl,hmay,hst⟩:=hrel
   by_cases hkt:k<l.length
   ·obtain ⟨b,o,rfl,hc⟩:=Hel.out k hkt
    rw [maySF_step hkt] at hmay
    simp only [Bool.and_eq_true] at hmay
    obtain ⟨hr,hmay⟩:=hmay
    have hdrop:l.drop k=l.getD k default::l.drop (k+1):=by rw [List.drop_eq_getElem_cons hkt];simp [hkt]
    have hls:=lastK_succ l k
    have HMay2:=Lib.hid hmay;clear hmay
    have hkb:(k:Int)<(l.length:Int):=by omega
    rcases hst with ⟨hk0,hs3,hfold,hL⟩|⟨hk0,done,c,hfold,hd1,hd2,hst⟩
    ·subst hs3
     have hk1:(l.getD k default).kind=1:=rightS_first (by rw [hk0] at hr ⊢;exact hr)
     have hf2:L=ctFold (l.drop (k+1)) [] (some ⟨(l.getD k default).x,(l.getD k default).y,[],false⟩) (l.getD k default).x (l.getD k default).y:=by
      rw [hfold]
      have hd0:l=l.getD k default::l.drop (k+1):=by rw [←hdrop,hk0];rfl
      have key:∀ m:List Sg,m=l.getD k default::l.drop (k+1)→ctFold m [] none x y=ctFold (l.drop (k+1)) [] (some ⟨(l.getD k default).x,(l.getD k default).y,[],false⟩) (l.getD k default).x (l.getD k default).y:=fun m hm=>by
       rw [hm,ctFold,if_pos hk1];simp
      exact key l hd0
     have HF:=Lib.hid hf2
     have HLs:=Lib.hid hls
     have HK0:=Lib.hid hk0
     clear hf2 hfold hr hdrop hls hk0
     generalize l.getD k default=s at *
     obtain ⟨kind,sx,sy,scx,scy⟩:=s
     unfold segC at hc
     dsimp only at hc hk1
     subst hk1
     replace hL:=hL.newOwn (B:=w.heap.size) (e:=173) (size:=4)
     have n1:True:=trivial
     go_wp2_with (first|(with_reducible first|(clear hL;intro _ _ _ hL;try dsimp only at hL)|(clear hL n1;intro b1 w1 hL)|(clear hL;intro _ _ hL)|(clear hL;intro _ hL))|((with_reducible refine wpA_lit rfl _ _ _ rfl ?_);first|refine litA1 hL ?_|refine litA2 hL ?_|refine litA3 hL ?_|refine litA4 hL ?_|refine litA6 hL ?_)|((with_reducible refine goJ rfl ?_);refine goW ?_))
     replace hL:=hL.drew
     have hS:(fun w':World=>w'.cell? ⟨b1,1,none⟩=some (.int .i64 sx)∧w'.cell? ⟨b1,2,none⟩=some (.int .i64 sy)) _:=⟨(hL.cell .here).trans rfl,(hL.cell .here).trans rfl⟩
     refine wpH_begin (by kernel_rfl) (fun w':World=>w'.cell? ⟨b1,1,none⟩=some (.int .i64 sx)∧w'.cell? ⟨b1,2,none⟩=some (.int .i64 sy)) ?_
     refine dsH 0 (.pointer (some ⟨b1,1,none⟩)) hS ?_
     refine drH 1 (.int .i64 sx) hS ?_ ?_;(· exact fun w' hw=>(load_cell hw.1))
     refine dsH 2 (.pointer (some ⟨b1,2,none⟩)) hS ?_
     refine drH 3 (.int .i64 sy) hS ?_ ?_;(· exact fun w' hw=>(load_cell hw.2))
     refine dsH 4 (.int .i64 sx) hS ?_
     refine dsH 5 (.int .i64 sy) hS ?_
     refine wpAnyH_done (by kernel_rfl) ?_ _
     clear hS
     go_wp2
     go_roundw
     case rel =>
      refine ⟨k+1,sx,sy,by omega,by go_num,rfl,rfl,by rw [HLs.out];exact HMay2.out,.inr ⟨by omega,[],⟨sx,sy,[],false⟩,HF.out,by simp,by simp,[],.slice none 0 0,rfl,?_⟩⟩
      exact ((hL.drop .here).newOwn (B:=w.heap.size) (e:=177) (size:=7)).triv fun w i u hu=>by simp at hu
     case measure=>simp [intOf];omega
    ·have hkind:=rightS_kind hr
     rcases (by omega:(l.getD k default).kind=1∨(l.getD k default).kind=4∨((l.getD k default).kind=2∨(l.getD k default).kind=3)) with hk1|hk1|hk1
     ·have hf2:L=ctFold (l.drop (k+1)) (done++[c]) (some ⟨(l.getD k default).x,(l.getD k default).y,[],false⟩) (l.getD k default).x (l.getD k default).y:=by
       rw [hfold,hdrop,ctFold,if_pos hk1];rfl
      obtain ⟨vs,hvl,hL⟩:=hst.settle
      obtain ⟨g3,c3,rfl⟩:=own_slice hL .here
      have hd3:(done++[c]).length≤k:=by simpa using hd1
      have HF:=Lib.hid hf2
      have HLs:=Lib.hid hls
      clear hf2 hfold hr hdrop hls hst hkind
      generalize done++[c]=done2 at *
      generalize l.getD k default=s at *
      obtain ⟨kind,sx,sy,scx,scy⟩:=s
      unfold segC at hc
      dsimp only at hc hk1
      subst hk1
      have n1:True:=trivial
      go_wp2_with (first|(with_reducible first|(clear hL;intro _ _ _ hL;try dsimp only at hL)|(clear hL n1;intro b1 w1 hL)|(clear hL;intro _ _ hL)|(clear hL;intro _ hL))|((with_reducible refine wpA_lit rfl _ _ _ rfl ?_);first|refine litA1 hL ?_|refine litA2 hL ?_|refine litA3 hL ?_|refine litA4 hL ?_|refine litA6 hL ?_)|((with_reducible refine goJ rfl ?_);refine goW ?_))
      replace hL:=hL.drew
      have hS:(fun w':World=>w'.cell? ⟨b1,1,none⟩=some (.int .i64 sx)∧w'.cell? ⟨b1,2,none⟩=some (.int .i64 sy)) _:=⟨(hL.cell .here).trans rfl,(hL.cell .here).trans rfl⟩
      refine wpH_begin (by kernel_rfl) (fun w':World=>w'.cell? ⟨b1,1,none⟩=some (.int .i64 sx)∧w'.cell? ⟨b1,2,none⟩=some (.int .i64 sy)) ?_
      refine dsH 0 (.pointer (some ⟨b1,1,none⟩)) hS ?_
      refine drH 1 (.int .i64 sx) hS ?_ ?_;(· exact fun w' hw=>(load_cell hw.1))
      refine dsH 2 (.pointer (some ⟨b1,2,none⟩)) hS ?_
      refine drH 3 (.int .i64 sy) hS ?_ ?_;(· exact fun w' hw=>(load_cell hw.2))
      refine dsH 4 (.int .i64 sx) hS ?_
      refine dsH 5 (.int .i64 sy) hS ?_
      refine wpAnyH_done (by kernel_rfl) ?_ _
      clear hS
      go_wp2
      go_roundw
      case rel =>
       refine ⟨k+1,sx,sy,by omega,by go_num,rfl,rfl,by rw [HLs.out];exact HMay2.out,.inr ⟨by omega,done2,⟨sx,sy,[],false⟩,HF.out,by omega,by simp,vs,.slice none 0 0,hvl,?_⟩⟩
       exact (hL.drop .here).newOwn (B:=w.heap.size) (e:=177) (size:=7)
      case measure=>simp [intOf];omega
     ·have hk11:¬(l.getD k default).kind=1:=by omega
      have hf2:L=ctFold (l.drop (k+1)) done (some ⟨c.x,c.y,c.edges,true⟩) (l.getD k default).x (l.getD k default).y:=by
       rw [hfold,hdrop,ctFold,if_neg hk11]
       simp only [hk1,if_true]
       exact ctFold_shut (by have:=HMay2.out;rwa [hk1] at this) _ _ _ _ _ _
      obtain ⟨vs,ve,hvl,hL⟩:=hst
      obtain ⟨g,oc,rfl,_,_⟩:=(hL.at (.there .here)).form (by omega)
      have hzl:((List.zipWith ctC vs done).flatten++ctC ve c).length=done.length*4+4:=by rw [List.length_append,zip_flat_len vs done hvl];rfl
      have HX:=Lib.hid (show ((List.zipWith ctC vs done).flatten++ctC ve c).set (done.length*4+3) (.bool true)=(List.zipWith ctC vs done).flatten++ctC ve ⟨c.x,c.y,c.edges,true⟩ by
       rw [List.set_append_right (h:=by rw [zip_flat_len vs done hvl];omega),zip_flat_len vs done hvl,show done.length*4+3-done.length*4=3 by omega];rfl)
      generalize (List.zipWith ctC vs done).flatten++ctC ve c=xs at *
      have HF:=Lib.hid hf2
      have HLs:=Lib.hid hls
      clear hf2 hfold hr hdrop hls hkind hk11
      generalize l.getD k default=s at *
      obtain ⟨kind,sx,sy,scx,scy⟩:=s
      unfold segC at hc
      dsimp only at hc hk1
      subst hk1
      have n1:True:=trivial
      go_wp2_with (first|(with_reducible first|(clear hL;intro _ _ _ hL;try dsimp only at hL)|(clear hL n1;intro b1 w1 hL)|(clear hL;intro _ _ hL)|(clear hL;intro _ hL))|((with_reducible refine wpA_lit rfl _ _ _ rfl ?_);first|refine litA1 hL ?_|refine litA2 hL ?_|refine litA3 hL ?_|refine litA4 hL ?_|refine litA6 hL ?_)|((with_reducible refine goJ rfl ?_);refine goW ?_))
      replace hL:=hL.drew
      have hS:(fun w':World=>w'.cell? ⟨b1,1,none⟩=some (.int .i64 sx)∧w'.cell? ⟨b1,2,none⟩=some (.int .i64 sy)) _:=⟨(hL.cell .here).trans rfl,(hL.cell .here).trans rfl⟩
      refine wpH_begin (by kernel_rfl) (fun w':World=>w'.cell? ⟨b1,1,none⟩=some (.int .i64 sx)∧w'.cell? ⟨b1,2,none⟩=some (.int .i64 sy)) ?_
      refine dsH 0 (.pointer (some ⟨b1,1,none⟩)) hS ?_
      refine drH 1 (.int .i64 sx) hS ?_ ?_;(· exact fun w' hw=>(load_cell hw.1))
      refine dsH 2 (.pointer (some ⟨b1,2,none⟩)) hS ?_
      refine drH 3 (.int .i64 sy) hS ?_ ?_;(· exact fun w' hw=>(load_cell hw.2))
      refine dsH 4 (.int .i64 sx) hS ?_
      refine dsH 5 (.int .i64 sy) hS ?_
      refine wpAnyH_done (by kernel_rfl) ?_ _
      clear hS
      go_wp2
      go_roundw
      case rel =>
       refine ⟨k+1,sx,sy,by omega,by go_num,rfl,rfl,by rw [HLs.out];exact HMay2.out,.inr ⟨by omega,done,⟨c.x,c.y,c.edges,true⟩,HF.out,by omega,by simp only;omega,vs,ve,hvl,?_⟩⟩
       rw [HX.out] at hL
       exact hL.drop .here
      case measure=>simp [intOf];omega
     ·have hk11:¬(l.getD k default).kind=1:=by omega
      have hk14:¬(l.getD k default).kind=4:=by omega
      have hf2:L=ctFold (l.drop (k+1)) done (some ⟨c.x,c.y,c.edges++[segE x y (l.getD k default)],c.shut⟩) (l.getD k default).x (l.getD k default).y:=by
       rw [hfold,hdrop,ctFold,if_neg hk11]
       simp only [hk14,if_false]
      obtain ⟨vs,ve,hvl,hL⟩:=hst
      obtain ⟨g,oc,rfl,_,_⟩:=(hL.at (.there .here)).form (by omega)
      obtain ⟨ea,ec,rfl⟩:=own_slice hL .here
      have hnb:¬((done.length:Int)+1≤(done.length:Int)):=by omega
      have hzl:((List.zipWith ctC vs done).flatten++ctC (.slice ea c.edges.length ec) c).length=done.length*4+4:=by rw [List.length_append,zip_flat_len vs done hvl];rfl
      have HG:=Lib.hid (show ((List.zipWith ctC vs done).flatten++ctC (.slice ea c.edges.length ec) c)[done.length*4+2]?=some (.slice ea c.edges.length ec) by
       rw [List.getElem?_append_right (by rw [zip_flat_len vs done hvl];omega),zip_flat_len vs done hvl,show done.length*4+2-done.length*4=2 by omega];rfl)
      have HX:=Lib.hid (show ∀ u es,((List.zipWith ctC vs done).flatten++ctC (.slice ea c.edges.length ec) c).set (done.length*4+2) u=(List.zipWith ctC vs done).flatten++ctC u ⟨c.x,c.y,es,c.shut⟩ by
       intro u es
       rw [List.set_append_right (h:=by rw [zip_flat_len vs done hvl];omega),zip_flat_len vs done hvl,show done.length*4+2-done.length*4=2 by omega];rfl)
      have HE:=Lib.hid (show ((c.edges++[segE x y (l.getD k default)]).map edgeC).flatten=(c.edges.map edgeC).flatten++[.int .i64 x,.int .i64 y,.bool ((l.getD k default).kind == 3),.int .i64 (l.getD k default).cx,.int .i64 (l.getD k default).cy,.int .i64 (l.getD k default).x,.int .i64 (l.getD k default).y] by
       rw [List.map_append,List.flatten_append]
       simp only [List.map_cons,List.map_nil,List.flatten_cons,List.flatten_nil,List.append_nil,segE,edgeC];congr 3)
      have HEl:=Lib.hid (show (c.edges++[segE x y (l.getD k default)]).length=c.edges.length+1 by rw [List.length_append];rfl)
      generalize (List.zipWith ctC vs done).flatten++ctC (.slice ea c.edges.length ec) c=xs at *
      generalize (c.edges.map edgeC).flatten=es at *
      have HF:=Lib.hid hf2
      have HLs:=Lib.hid hls
      clear hf2 hfold hr hdrop hls hkind hk1
      generalize c.edges++[segE x y (l.getD k default)]=edges2 at *
      generalize l.getD k default=s at *
      obtain ⟨kind,sx,sy,scx,scy⟩:=s
      unfold segC at hc
      dsimp only at hc hk11 hk14
      have n1:True:=trivial
      go_wp2_with (first|(with_reducible first|(clear hL;intro _ _ _ hL;try dsimp only at hL)|(clear hL n1;intro b1 w1 hL)|(clear hL;intro _ _ hL)|(clear hL;intro _ hL))|((with_reducible refine wpA_lit rfl _ _ _ rfl ?_);first|refine litA1 hL ?_|refine litA2 hL ?_|refine litA3 hL ?_|refine litA4 hL ?_|refine litA6 hL ?_)|((with_reducible refine goJ rfl ?_);refine goW ?_))
      replace hL:=hL.drew
      refine wpM_begin (by kernel_rfl) (fun w'=>w'.cell? ⟨b1,0,none⟩=some (.int .i64 kind)∧w'.cell? ⟨b1,1,none⟩=some (.int .i64 sx)∧w'.cell? ⟨b1,2,none⟩=some (.int .i64 sy)∧w'.cell? ⟨b1,3,none⟩=some (.int .i64 scx)∧w'.cell? ⟨b1,4,none⟩=some (.int .i64 scy)∧w'.cell? ⟨g,done.length*4+2,none⟩=some (.slice ea c.edges.length ec)) 25 ?_
      have hS:(fun w':World=>w'.cell? ⟨b1,0,none⟩=some (.int .i64 kind)∧w'.cell? ⟨b1,1,none⟩=some (.int .i64 sx)∧w'.cell? ⟨b1,2,none⟩=some (.int .i64 sy)∧w'.cell? ⟨b1,3,none⟩=some (.int .i64 scx)∧w'.cell? ⟨b1,4,none⟩=some (.int .i64 scy)∧w'.cell? ⟨g,done.length*4+2,none⟩=some (.slice ea c.edges.length ec)) _:=⟨(hL.cellA).trans rfl,(hL.cellA).trans rfl,(hL.cellA).trans rfl,(hL.cellA).trans rfl,(hL.cellA).trans rfl,hL.ownCell (by (repeat (first|with_reducible exact At.here|with_reducible apply At.there))) HG.out⟩
      refine dsM 0 (.slice (some ⟨g,0,none⟩) (done.length+1) oc) hS ?_
      refine dsM 1 (.int .i64 (done.length:Int)) hS ?_
      refine dsM 2 (.slice (some ⟨g,0,none⟩) (done.length+1) oc) hS ?_
      refine dsM 3 (.int .i64 (done.length:Int)) hS ?_
      refine dsM 4 (.pointer (some ⟨g,done.length*4,none⟩)) hS ?_
      refine dsM 5 (.pointer (some ⟨g,done.length*4+2,none⟩)) hS ?_
      refine drM 6 (.slice ea c.edges.length ec) hS ?_ ?_;(· exact fun w' hw=>(load_cell hw.2.2.2.2.2))
      refine dsM 7 (.int .i64 x) hS ?_
      refine dsM 8 (.int .i64 y) hS ?_
      refine dsM 9 (.pointer (some ⟨b1,0,none⟩)) hS ?_
      refine drM 10 (.int .i64 kind) hS ?_ ?_;(· exact fun w' hw=>(load_cell hw.1))
      refine dsM 11 (.bool (kind == 3)) hS ?_
      refine dsM 12 (.pointer (some ⟨b1,3,none⟩)) hS ?_
      refine drM 13 (.int .i64 scx) hS ?_ ?_;(· exact fun w' hw=>(load_cell hw.2.2.2.1))
      refine dsM 14 (.pointer (some ⟨b1,4,none⟩)) hS ?_
      refine drM 15 (.int .i64 scy) hS ?_ ?_;(· exact fun w' hw=>(load_cell hw.2.2.2.2.1))
      refine dsM 16 (.pointer (some ⟨b1,1,none⟩)) hS ?_
      refine drM 17 (.int .i64 sx) hS ?_ ?_;(· exact fun w' hw=>(load_cell hw.2.1))
      refine dsM 18 (.pointer (some ⟨b1,2,none⟩)) hS ?_
      refine drM 19 (.int .i64 sy) hS ?_ ?_;(· exact fun w' hw=>(load_cell hw.2.2.1))
      refine dsM 20 (.agg #[.int .i64 x,.int .i64 y,.bool (kind == 3),.int .i64 scx,.int .i64 scy,.int .i64 sx,.int .i64 sy]) hS ?_
      clear hS
      refine wpM_one (i:=21) (by kernel_rfl) (wpOf ?_)
      refine st_lit rfl _ _ _ rfl (litAt1 (.agg #[.int .i64 x,.int .i64 y,.bool (kind == 3),.int .i64 scx,.int .i64 scy,.int .i64 sx,.int .i64 sy]) (by simp only [List.map_toArray,List.map_cons,List.map_nil];rfl) inferInstance inferInstance (by simp [go_sem,Value.cells]) (by decide) #[.int .i64 x,.int .i64 y,.bool (kind == 3),.int .i64 scx,.int .i64 scy,.int .i64 sx,.int .i64 sy] (by simp [go_sem,litCells,Value.cells]) hL ?_)
      clear hL
      intro b7 w7 hL
      have hS:=(show (fun w':World=>w'.cell? ⟨b1,0,none⟩=some (.int .i64 kind)∧w'.cell? ⟨b1,1,none⟩=some (.int .i64 sx)∧w'.cell? ⟨b1,2,none⟩=some (.int .i64 sy)∧w'.cell? ⟨b1,3,none⟩=some (.int .i64 scx)∧w'.cell? ⟨b1,4,none⟩=some (.int .i64 scy)∧w'.cell? ⟨g,done.length*4+2,none⟩=some (.slice ea c.edges.length ec)) w7 from ⟨(hL.cellA).trans rfl,(hL.cellA).trans rfl,(hL.cellA).trans rfl,(hL.cellA).trans rfl,(hL.cellA).trans rfl,hL.ownCell (by (repeat (first|with_reducible exact At.here|with_reducible apply At.there))) HG.out⟩)
      refine ⟨fun _=>hS,?_⟩
      clear hS
      simp only [Act.put,setP]
      refine wpM_one (i:=22) (by kernel_rfl) (wpOf ?_)
      refine st_append rfl _ _ _ rfl (.slice ea c.edges.length ec) (.slice (some ⟨b7,0,none⟩) 1 1) rfl rfl (appendAt inferInstance inferInstance hL _ _ .here _ _ _ (fun r'=>.there .here) rfl (by decide) rfl (by simp [go_sem,Value.oneCell']) (by omega) (by unfold maxLen;omega) (by omega) ?_)
      clear hL
      intro ng ncap w8 hL
      have hS:=(show (fun w':World=>w'.cell? ⟨b1,0,none⟩=some (.int .i64 kind)∧w'.cell? ⟨b1,1,none⟩=some (.int .i64 sx)∧w'.cell? ⟨b1,2,none⟩=some (.int .i64 sy)∧w'.cell? ⟨b1,3,none⟩=some (.int .i64 scx)∧w'.cell? ⟨b1,4,none⟩=some (.int .i64 scy)∧w'.cell? ⟨g,done.length*4+2,none⟩=some (.slice ea c.edges.length ec)) w8 from ⟨(hL.cellA).trans rfl,(hL.cellA).trans rfl,(hL.cellA).trans rfl,(hL.cellA).trans rfl,(hL.cellA).trans rfl,hL.ownCell (by (repeat (first|with_reducible exact At.here|with_reducible apply At.there))) HG.out⟩)
      refine ⟨fun _=>hS,?_⟩
      simp only [Act.put,setP]
      refine stO (i:=23) (.pointer (some ⟨g,done.length*4,none⟩)) hS ?_ ?_;(· exact fun w'=>(by go_simp));simp only [Act.put,setP]
      refine dsM 24 (.pointer (some ⟨g,done.length*4+2,none⟩)) hS ?_
      clear hS
      refine wpM_one (i:=25) (by kernel_rfl) (wpOf ?_)
      refine st_store rfl _ _ _ rfl ⟨g,done.length*4+2,none⟩ rfl (.slice (some ⟨ng,0,none⟩) (c.edges.length+1) ncap) rfl (storeO hL ?_)
      clear hL
      intro w9 hL
      refine ⟨fun h=>absurd rfl h,wpM_done (by kernel_rfl) ?_⟩
      simp only [Act.put]
      go_wp2
      replace hL:=hL.drew
      have hS:(fun w':World=>w'.cell? ⟨b1,1,none⟩=some (.int .i64 sx)∧w'.cell? ⟨b1,2,none⟩=some (.int .i64 sy)) _:=⟨(hL.cell .here).trans rfl,(hL.cell .here).trans rfl⟩
      refine wpH_begin (by kernel_rfl) (fun w':World=>w'.cell? ⟨b1,1,none⟩=some (.int .i64 sx)∧w'.cell? ⟨b1,2,none⟩=some (.int .i64 sy)) ?_
      refine dsH 0 (.pointer (some ⟨b1,1,none⟩)) hS ?_
      refine drH 1 (.int .i64 sx) hS ?_ ?_;(· exact fun w' hw=>(load_cell hw.1))
      refine dsH 2 (.pointer (some ⟨b1,2,none⟩)) hS ?_
      refine drH 3 (.int .i64 sy) hS ?_ ?_;(· exact fun w' hw=>(load_cell hw.2))
      refine dsH 4 (.int .i64 sx) hS ?_
      refine dsH 5 (.int .i64 sy) hS ?_
      refine wpAnyH_done (by kernel_rfl) ?_ _
      clear hS
      go_wp2
      go_roundw
      case rel =>
       refine ⟨k+1,sx,sy,by omega,by go_num,rfl,rfl,by rw [HLs.out];exact HMay2.out,.inr ⟨by omega,done,⟨c.x,c.y,edges2,c.shut⟩,HF.out,by omega,by have:=HEl.out;simp only;omega,vs,.slice (some ⟨ng,0,none⟩) (c.edges.length+1) ncap,hvl,?_⟩⟩
       rw [HX.out _ edges2,←HE.out,←HEl.out] at hL
       have h3:=hL.drop .here
       simp only [HEl.out] at h3 ⊢
       exact h3
      case measure=>simp [intOf];omega
   ·have e:k=l.length:=by omega
    subst e
    rcases hst with ⟨hk0,hs3,hfold,hL⟩|⟨hk0,done,c,hfold,hd1,hd2,hst⟩
    ·subst hs3
     have hnil:L=[]:=by
      rw [hfold,List.length_eq_zero_iff.1 hk0];rfl
     have HN:=Lib.hid hnil
     clear hfold hnil
     go_wp2_with (first|(with_reducible first|(clear hL;intro _ _ _ hL;try dsimp only at hL)|(clear hL n1;intro b1 w1 hL)|(clear hL;intro _ _ hL)|(clear hL;intro _ hL))|((with_reducible refine wpA_lit rfl _ _ _ rfl ?_);first|refine litA1 hL ?_|refine litA2 hL ?_|refine litA3 hL ?_|refine litA4 hL ?_|refine litA6 hL ?_)|((with_reducible refine goJ rfl ?_);refine goW ?_))
     go_ret
     rw [HN.out]
     exact ⟨_,[],rfl,rfl,hL.below,(hL.triv (χ:=fun w=>CtsAt w (.slice none 0 0) [] []) fun w=>⟨⟨none,0,rfl,Nat.le_refl _,by unfold maxLen;omega,fun i hi=>by simp at hi⟩,fun i u hi=>by simp at hi⟩).fresh⟩
    ·obtain ⟨vs,hvl,hL⟩:=hst.settle
     rw [List.drop_length] at hfold
     have hL2:L=done++[c]:=by rw [hfold];rfl
     have HN:=Lib.hid hL2
     clear hL2 hfold hst
     generalize done++[c]=d2 at *
     obtain ⟨g,oc,rfl⟩:=own_slice hL .here
     go_wp2_with (first|(with_reducible first|(clear hL;intro _ _ _ hL;try dsimp only at hL)|(clear hL n1;intro b1 w1 hL)|(clear hL;intro _ _ hL)|(clear hL;intro _ hL))|((with_reducible refine wpA_lit rfl _ _ _ rfl ?_);first|refine litA1 hL ?_|refine litA2 hL ?_|refine litA3 hL ?_|refine litA4 hL ?_|refine litA6 hL ?_)|((with_reducible refine goJ rfl ?_);refine goW ?_))
     go_ret
     rw [HN.out]
     exact ⟨_,vs,rfl,hvl,hL.below,((hL.settle .here (φ:=fun w=>SliceAt w 4 (.slice g d2.length oc) (List.zipWith ctC vs d2)) fun w h=>own_sliceAt h (by simp [hvl]) rfl zip_len).join (χ:=fun w=>CtsAt w (.slice g d2.length oc) vs d2) fun w h1 h2=>⟨h1,h2⟩).fresh⟩
open Go.RowKit
def lastX (c:Ct):Int:=if c.edges.length=0 then c.x else (endE c).x1
def lastY (c:Ct):Int:=if c.edges.length=0 then c.y else (endE c).y1
theorem edgesC_last (c:Ct):(lastX c=c.x∧lastY c=c.y∧edgesC c=c.edges)∨(¬lastX c=c.x∧edgesC c=c.edges++[⟨lastX c,lastY c,false,0,0,c.x,c.y⟩])∨(lastX c=c.x∧¬lastY c=c.y∧edgesC c=c.edges++[⟨lastX c,lastY c,false,0,0,c.x,c.y⟩]):=by
 unfold lastX lastY
 by_cases h0:c.edges.length=0
 ·rw [if_pos h0,if_pos h0,edgesC_nil h0]
  exact .inl ⟨rfl,rfl,(List.length_eq_zero_iff.1 h0).symm⟩
 ·rw [if_neg h0,if_neg h0]
  by_cases h1:(endE c).x1=c.x
  ·by_cases h2:(endE c).y1=c.y
   ·exact .inl ⟨h1,h2,edgesC_shut h0 ⟨h1,h2⟩⟩
   ·exact .inr (.inr ⟨h1,h2,edgesC_open h0 (fun h=>h2 h.2)⟩)
  ·exact .inr (.inl ⟨h1,edgesC_open h0 (fun h=>h1 h.1)⟩)
def CtHere (w:World) (b o:Nat) (u:Value) (x y:Int) (es:List Edg) (sh:Bool):Prop:=EdgesAt w u es∧w.rangeAt b o [.int .i64 x,.int .i64 y,u,.bool sh]
theorem CtHere.cells {w:World} {b o:Nat} {u:Value} {x y:Int} {es:List Edg} {sh:Bool} (h:CtHere w b o u x y es sh):w.cell? ⟨b,o,none⟩=some (.int .i64 x)∧w.cell? ⟨b,o+1,none⟩=some (.int .i64 y)∧w.cell? ⟨b,o+2,none⟩=some u∧w.rangeAt b o [.int .i64 x,.int .i64 y,u,.bool sh] :=
 ⟨h.2 0 _ rfl,h.2 1 _ rfl,h.2 2 _ rfl,h.2⟩
theorem CtHere.edges {w:World} {b o:Nat} {u:Value} {x y:Int} {es:List Edg} {sh:Bool} (h:CtHere w b o u x y es sh):EdgesAt w u es:=h.1
set_option maxRecDepth 100000 in
set_option maxHeartbeats 8000000 in
theorem rLast_calls (w:World) (u:Value) (c:Ct) (hu:EdgesAt w u c.edges):Calls Tryz.prog 123 #[.agg #[.int .i64 c.x,.int .i64 c.y,u,.bool c.shut]] w fun e w'=>e=.returned (.tuple #[.int .i64 (lastX c),.int .i64 (lastY c)])∧Below w.heap.size w w':=by
 obtain ⟨cx,cy,ces,csh⟩:=c
 dsimp only at hu ⊢
 obtain ⟨ea,ec,rfl,hec1,hec2,hel⟩:=EdgesAt.parts hu
 clear hu
 unfold maxLen at hec2
 have hL:=Holds.start w
 by_cases h0:ces.length=0
 ·have HX:=Lib.hid (show lastX ⟨cx,cy,ces,csh⟩=cx by unfold lastX;rw [if_pos h0])
  have HY:=Lib.hid (show lastY ⟨cx,cy,ces,csh⟩=cy by unfold lastY;rw [if_pos h0])
  generalize lastX ⟨cx,cy,ces,csh⟩=X at *
  generalize lastY ⟨cx,cy,ces,csh⟩=Y at *
  rw [h0]
  clear hel
  go_enter Tryz.func123,Tryz.ntmps123
  have n1:True:=trivial
  go_wp2_with (first|(with_reducible (clear hL n1;intro b1 w1 hL))|((with_reducible refine goJ rfl ?_);refine goW ?_))
  replace hL:=hL.drew
  have hS:(fun w':World=>w'.cell? ⟨b1,0,none⟩=some (.int .i64 cx)∧w'.cell? ⟨b1,1,none⟩=some (.int .i64 cy)) _:=⟨(hL.cell .here).trans rfl,(hL.cell .here).trans rfl⟩
  refine wpH_begin (by kernel_rfl) (fun w':World=>w'.cell? ⟨b1,0,none⟩=some (.int .i64 cx)∧w'.cell? ⟨b1,1,none⟩=some (.int .i64 cy)) ?_
  refine dsH 0 (.pointer (some ⟨b1,0,none⟩)) hS ?_
  refine drH 1 (.int .i64 cx) hS ?_ ?_;(· exact fun w' hw=>(load_cell hw.1))
  refine dsH 2 (.pointer (some ⟨b1,1,none⟩)) hS ?_
  refine drH 3 (.int .i64 cy) hS ?_ ?_;(· exact fun w' hw=>(load_cell hw.2))
  refine dsH 4 (.int .i64 cx) hS ?_
  refine dsH 5 (.int .i64 cy) hS ?_
  refine wpAnyH_done (by kernel_rfl) ?_ _
  clear hS
  go_wp2
  go_ret2
  exact ⟨by rw [HX.out,HY.out];rfl,hL.below⟩
 ·obtain ⟨m,hm⟩:∃ m,ces.length=m+1:=⟨ces.length-1,by omega⟩
  obtain ⟨be,oe,rfl,hr⟩:=hel m (by omega)
  have hE:endE ⟨cx,cy,ces,csh⟩=ces.getD m default:=by unfold endE;dsimp only;rw [hm];rfl
  have HX:=Lib.hid (show lastX ⟨cx,cy,ces,csh⟩=(ces.getD m default).x1 by unfold lastX;rw [if_neg h0,hE])
  have HY:=Lib.hid (show lastY ⟨cx,cy,ces,csh⟩=(ces.getD m default).y1 by unfold lastY;rw [if_neg h0,hE])
  clear hE hel
  generalize lastX ⟨cx,cy,ces,csh⟩=X at *
  generalize lastY ⟨cx,cy,ces,csh⟩=Y at *
  generalize ces.getD m default=ed at *
  obtain ⟨ex0,ey0,eb,ecx,ecy,ex1,ey1⟩:=ed
  unfold edgeC at hr
  dsimp only at hr HX HY
  rw [hm] at hec1 ⊢
  clear hm h0
  go_enter Tryz.func123,Tryz.ntmps123
  obtain ⟨n1,n2⟩:=tok2
  go_wp2_with (first|(with_reducible first|(clear hL n1;intro b1 w1 hL)|(clear hL n2;intro b2 w2 hL)|(clear hL;intro _ hL))|((with_reducible refine goJ rfl ?_);refine goW ?_))
  replace hL:=hL.drew
  have hS:(fun w':World=>w'.cell? ⟨b2,5,none⟩=some (.int .i64 ex1)∧w'.cell? ⟨b2,6,none⟩=some (.int .i64 ey1)) _:=⟨(hL.cell .here).trans rfl,(hL.cell .here).trans rfl⟩
  refine wpH_begin (by kernel_rfl) (fun w':World=>w'.cell? ⟨b2,5,none⟩=some (.int .i64 ex1)∧w'.cell? ⟨b2,6,none⟩=some (.int .i64 ey1)) ?_
  refine dsH 0 (.pointer (some ⟨b2,5,none⟩)) hS ?_
  refine drH 1 (.int .i64 ex1) hS ?_ ?_;(· exact fun w' hw=>(load_cell hw.1))
  refine dsH 2 (.pointer (some ⟨b2,6,none⟩)) hS ?_
  refine drH 3 (.int .i64 ey1) hS ?_ ?_;(· exact fun w' hw=>(load_cell hw.2))
  refine dsH 4 (.int .i64 ex1) hS ?_
  refine dsH 5 (.int .i64 ey1) hS ?_
  refine wpAnyH_done (by kernel_rfl) ?_ _
  clear hS
  go_wp2
  go_ret2
  exact ⟨by rw [HX.out,HY.out];rfl,hL.below⟩
set_option maxRecDepth 100000 in
set_option maxHeartbeats 8000000 in
theorem rEdges_calls (w:World) (v:Value) (l:List Sg) (hv:SegsAt w v l):Calls Tryz.prog 80 #[v] w (EdgesOut (edgesS l) w):=by
 have Hv:=Lib.hid hv
 obtain ⟨a,cap,rfl,hlc,hcm,hel⟩:=hv.parts
 clear hv hel
 unfold maxLen at hcm
 have hL:=Holds.start w
 have HR:=Lib.hid (show edgesS l=((contoursS l).take (contoursS l).length).flatMap edgesC by rw [List.take_length];rfl)
 have hW:=contours_weight l
 have hC:=contours_len l
 generalize edgesS l=L at *
 have Hc:∀ w':World,Below w.heap.size w w'→Calls Tryz.prog 122 #[.slice a l.length cap] w' (CtsOut (contoursS l) w'):=fun w' hb=>rContours_calls w' _ l (SliceAt.below Hv.out hb)
 have HC:=Lib.hid Hc
 clear Hc
 generalize contoursS l=cts at *
 have HW:=Lib.hid hW
 clear hW
 go_enter Tryz.func80,Tryz.ntmps80
 go_wp2_with (first|(go_at_call 122;(with_reducible refine (HC.out _ hL.below).mono ?_);rintro e _ ⟨vc,vs,rfl,hvl,hb,hf⟩;obtain ⟨sa,sc,rfl⟩:∃ sa sc,vc=.slice sa cts.length sc:=(by obtain ⟨h1,_⟩:=hf.now;obtain ⟨a,c,h,_⟩:=h1;refine ⟨a,c,?_⟩;rw [h,List.length_zipWith,hvl,Nat.min_self]);replace hL:=hL.callF hb hf;clear hb hf)|((with_reducible refine wpA_lit rfl _ _ _ rfl ?_);first|refine litA1 hL ?_|refine litA2 hL ?_))
 go_loopw [3,5] (fun s3 s5 wr=>∃ (k:Nat) (acc:List Edg),k≤cts.length∧s5=.int .i64 k∧acc=(cts.take k).flatMap edgesC∧Holds w wr [own w.heap.size 177 7 s3 acc.length (acc.map edgeC).flatten] [fun w=>CtsAt w (.slice sa cts.length sc) vs cts])
  (fun s3 s5 wr=>cts.length-(intOf s5).toNat)
 case atStart=>exact ⟨0,[],by omega,rfl,by simp,hL.newOwn⟩
 case round =>
  clear hL
  obtain ⟨k,acc,hk,rfl,hacc,hL⟩:=hrel
  by_cases hkt:k<cts.length
  ·have hwt:=Nat.le_trans (take_weight cts k hkt) HW.out
   rw [←hacc] at hwt
   have hnext:=take_flat cts k hkt
   rw [←hacc] at hnext
   have hget:∃ bx ox u,sa=some ⟨bx,ox,none⟩∧vs[k]?=some u∧wr.rangeAt bx (ox+k*4) (ctC u (cts.getD k default)):=by
    obtain ⟨⟨a',c',he,_,_,h5⟩,_⟩:=hL.fact0
    injection he with he _ _
    subst he
    have hzl:(List.zipWith ctC vs cts).length=cts.length:=by rw [List.length_zipWith,hvl,Nat.min_self]
    obtain ⟨bx,ox,e,hr⟩:=h5 k (by omega)
    obtain ⟨u,hu,hz⟩:=zip_get vs cts hvl k hkt
    rw [hz (by omega)] at hr
    exact ⟨bx,ox,u,e,hu,hr⟩
   obtain ⟨bx,ox,u,rfl,hu,hc⟩:=hget
   have hkb:(k:Int)<(cts.length:Int):=by omega
   replace hL:=(hL.dup).map (χ:=fun w=>CtHere w bx (ox+k*4) u (cts.getD k default).x (cts.getD k default).y (cts.getD k default).edges (cts.getD k default).shut) fun w h=>by
    refine ⟨h.2 k u hu,?_⟩
    obtain ⟨⟨a',c',he,_,_,h5⟩,_⟩:=h
    injection he with he _ _
    subst he
    have hzl:(List.zipWith ctC vs cts).length=cts.length:=by rw [List.length_zipWith,hvl,Nat.min_self]
    obtain ⟨b',o',e,hr⟩:=h5 k (by omega)
    cases e
    obtain ⟨u',hu',hz⟩:=zip_get vs cts hvl k hkt
    rw [hz (by omega)] at hr
    have e1:u'=u:=by rw [hu] at hu';injection hu' with h;exact h.symm
    subst e1
    exact hr
   have HN:=Lib.hid hnext
   have HACC:=Lib.hid hacc
   clear hnext hu hacc hc
   have hls:=fun w' h=>rLast_calls w' u (cts.getD k default) h
   have hcs:=edgesC_last (cts.getD k default)
   generalize lastX (cts.getD k default)=lx at *
   generalize lastY (cts.getD k default)=ly at *
   generalize edgesC (cts.getD k default)=NE at *
   generalize cts.getD k default=c at *
   obtain ⟨cx,cy,ces,csh⟩:=c
   unfold ctW at hwt
   dsimp only at hwt hL hls hcs
   have HLs:=Lib.hid hls
   clear hls
   obtain ⟨ea,ec,rfl,hec1,hec2,_⟩:=EdgesAt.parts hL.fact0.1
   unfold maxLen at hec2
   obtain ⟨g3,c3,rfl⟩:=own_slice hL .here
   obtain ⟨_,_,_,_⟩:=CtHere.cells hL.fact0
   rcases hcs with ⟨hx,hy,hE⟩|⟨hx,hE⟩|⟨hx,hy,hE⟩
   ·subst hx;subst hy
    have HE:=Lib.hid hE
    clear hE
    obtain ⟨n1,n2,n3⟩:=tok3
    go_wp2_with (first|((with_reducible refine wpA_append rfl _ _ _ rfl (.slice _ _ _) rfl ?_);intro vq hvq;simp [go_sem] at hvq;subst hvq;refine appendE hL.fact0.1 hL ?_;clear hL;intro ve2 _ hL;obtain ⟨_,_,_,_⟩:=CtHere.cells hL.fact0)|(go_at_call 123;(with_reducible refine (HLs.out _ (CtHere.edges hL.fact0)).mono ?_);rintro e _ ⟨rfl,hb⟩;replace hL:=hL.call hb;clear hb;obtain ⟨_,_,_,_⟩:=CtHere.cells hL.fact0)|((with_reducible refine wpA_lit rfl _ _ _ rfl ?_);first|refine litA1 hL ?_|refine litA2 hL ?_)|((with_reducible refine goJ rfl ?_);refine goW ?_))
    go_roundw
    case rel =>
     refine ⟨k+1,acc++ces,by omega,by go_num,by rw [HN.out,HE.out],?_⟩
     rw [List.length_append,List.map_append,List.flatten_append]
     exact hL.forget
    case measure=>simp [intOf];omega
   ·have HE:=Lib.hid hE
    clear hE
    obtain ⟨n1,n2,n3⟩:=tok3
    go_wp2_with (first|((with_reducible refine wpA_append rfl _ _ _ rfl (.slice _ _ _) rfl ?_);intro vq hvq;simp [go_sem] at hvq;subst hvq;refine appendE hL.fact0.1 hL ?_;clear hL;intro ve2 _ hL;obtain ⟨_,_,_,_⟩:=CtHere.cells hL.fact0)|(go_at_call 123;(with_reducible refine (HLs.out _ (CtHere.edges hL.fact0)).mono ?_);rintro e _ ⟨rfl,hb⟩;replace hL:=hL.call hb;clear hb;obtain ⟨_,_,_,_⟩:=CtHere.cells hL.fact0)|((with_reducible refine wpA_lit rfl _ _ _ rfl ?_);first|refine litA1 hL ?_|refine litA2 hL ?_)|((with_reducible refine goJ rfl ?_);refine goW ?_))
    replace hL:=hL.drew
    obtain ⟨g4,c4,rfl⟩:=own_slice hL .here
    have hS:=(show (fun w':World=>w'.cell? ⟨bx,ox+k*4,none⟩=some (.int .i64 cx)∧w'.cell? ⟨bx,ox+k*4+1,none⟩=some (.int .i64 cy)) _ from ⟨(CtHere.cells hL.fact0).1,(CtHere.cells hL.fact0).2.1⟩)
    refine wpH_begin (by kernel_rfl) (fun w':World=>w'.cell? ⟨bx,ox+k*4,none⟩=some (.int .i64 cx)∧w'.cell? ⟨bx,ox+k*4+1,none⟩=some (.int .i64 cy)) ?_
    refine dsH 0 (.slice g4 (acc.length+ces.length) c4) hS ?_
    refine dsH 1 (.int .i64 lx) hS ?_
    refine dsH 2 (.int .i64 ly) hS ?_
    refine dsH 3 (.slice (some ⟨bx,ox,none⟩) cts.length sc) hS ?_
    refine dsH 4 (.int .i64 (k:Int)) hS ?_
    refine dsH 5 (.pointer (some ⟨bx,ox+k*4,none⟩)) hS ?_
    refine dsH 6 (.pointer (some ⟨bx,ox+k*4,none⟩)) hS ?_
    refine drH 7 (.int .i64 cx) hS ?_ ?_;(· exact fun w' hw=>(load_cell hw.1))
    refine dsH 8 (.slice (some ⟨bx,ox,none⟩) cts.length sc) hS ?_
    refine dsH 9 (.int .i64 (k:Int)) hS ?_
    refine dsH 10 (.pointer (some ⟨bx,ox+k*4,none⟩)) hS ?_
    refine dsH 11 (.pointer (some ⟨bx,ox+k*4+1,none⟩)) hS ?_
    refine drH 12 (.int .i64 cy) hS ?_ ?_;(· exact fun w' hw=>(load_cell hw.2))
    refine dsH 13 (.agg #[.int .i64 lx,.int .i64 ly,.bool false,.int .i64 0,.int .i64 0,.int .i64 cx,.int .i64 cy]) hS ?_
    clear hS
    refine wpH_one (i:=14) (by kernel_rfl) (wpOf ?_)
    refine st_lit rfl _ _ _ rfl (litA1 hL ?_)
    clear hL
    intro b7 w7 hL
    have hS:=(show (fun w':World=>w'.cell? ⟨bx,ox+k*4,none⟩=some (.int .i64 cx)∧w'.cell? ⟨bx,ox+k*4+1,none⟩=some (.int .i64 cy)) _ from ⟨(CtHere.cells hL.fact0).1,(CtHere.cells hL.fact0).2.1⟩)
    refine ⟨hS,?_⟩
    clear hS
    simp only [Act.put,setP]
    refine wpH_one (i:=15) (by kernel_rfl) (wpOf ?_)
    refine st_append rfl _ _ _ rfl (.slice g4 (acc.length+ces.length) c4) (.slice (some ⟨b7,0,none⟩) 1 1) rfl rfl (appendA hL ?_)
    clear hL
    intro ng ncap w8 hL
    have hS:=(show (fun w':World=>w'.cell? ⟨bx,ox+k*4,none⟩=some (.int .i64 cx)∧w'.cell? ⟨bx,ox+k*4+1,none⟩=some (.int .i64 cy)) _ from ⟨(CtHere.cells hL.fact0).1,(CtHere.cells hL.fact0).2.1⟩)
    refine ⟨hS,?_⟩
    simp only [Act.put,setP]
    refine dsH 16 (.slice (some ⟨ng,0,none⟩) (acc.length+ces.length+1) ncap) hS ?_
    refine wpAnyH_done (by kernel_rfl) ?_ _
    clear hS
    go_wp2
    go_roundw
    case rel =>
     refine ⟨k+1,acc++(ces++[⟨lx,ly,false,0,0,cx,cy⟩]),by omega,by go_num,by rw [HN.out,HE.out],?_⟩
     have hL2:=hL.forget
     rw [List.length_append,List.length_append,List.map_append,List.flatten_append,List.map_append,List.flatten_append,←List.append_assoc,←Nat.add_assoc]
     exact hL2
    case measure=>simp [intOf];omega
   ·subst hx
    have HE:=Lib.hid hE
    clear hE
    obtain ⟨n1,n2,n3⟩:=tok3
    go_wp2_with (first|((with_reducible refine wpA_append rfl _ _ _ rfl (.slice _ _ _) rfl ?_);intro vq hvq;simp [go_sem] at hvq;subst hvq;refine appendE hL.fact0.1 hL ?_;clear hL;intro ve2 _ hL;obtain ⟨_,_,_,_⟩:=CtHere.cells hL.fact0)|(go_at_call 123;(with_reducible refine (HLs.out _ (CtHere.edges hL.fact0)).mono ?_);rintro e _ ⟨rfl,hb⟩;replace hL:=hL.call hb;clear hb;obtain ⟨_,_,_,_⟩:=CtHere.cells hL.fact0)|((with_reducible refine wpA_lit rfl _ _ _ rfl ?_);first|refine litA1 hL ?_|refine litA2 hL ?_)|((with_reducible refine goJ rfl ?_);refine goW ?_))
    replace hL:=hL.drew
    obtain ⟨g4,c4,rfl⟩:=own_slice hL .here
    have hS:=(show (fun w':World=>w'.cell? ⟨bx,ox+k*4,none⟩=some (.int .i64 lx)∧w'.cell? ⟨bx,ox+k*4+1,none⟩=some (.int .i64 cy)) _ from ⟨(CtHere.cells hL.fact0).1,(CtHere.cells hL.fact0).2.1⟩)
    refine wpH_begin (by kernel_rfl) (fun w':World=>w'.cell? ⟨bx,ox+k*4,none⟩=some (.int .i64 lx)∧w'.cell? ⟨bx,ox+k*4+1,none⟩=some (.int .i64 cy)) ?_
    refine dsH 0 (.slice g4 (acc.length+ces.length) c4) hS ?_
    refine dsH 1 (.int .i64 lx) hS ?_
    refine dsH 2 (.int .i64 ly) hS ?_
    refine dsH 3 (.slice (some ⟨bx,ox,none⟩) cts.length sc) hS ?_
    refine dsH 4 (.int .i64 (k:Int)) hS ?_
    refine dsH 5 (.pointer (some ⟨bx,ox+k*4,none⟩)) hS ?_
    refine dsH 6 (.pointer (some ⟨bx,ox+k*4,none⟩)) hS ?_
    refine drH 7 (.int .i64 lx) hS ?_ ?_;(· exact fun w' hw=>(load_cell hw.1))
    refine dsH 8 (.slice (some ⟨bx,ox,none⟩) cts.length sc) hS ?_
    refine dsH 9 (.int .i64 (k:Int)) hS ?_
    refine dsH 10 (.pointer (some ⟨bx,ox+k*4,none⟩)) hS ?_
    refine dsH 11 (.pointer (some ⟨bx,ox+k*4+1,none⟩)) hS ?_
    refine drH 12 (.int .i64 cy) hS ?_ ?_;(· exact fun w' hw=>(load_cell hw.2))
    refine dsH 13 (.agg #[.int .i64 lx,.int .i64 ly,.bool false,.int .i64 0,.int .i64 0,.int .i64 lx,.int .i64 cy]) hS ?_
    clear hS
    refine wpH_one (i:=14) (by kernel_rfl) (wpOf ?_)
    refine st_lit rfl _ _ _ rfl (litA1 hL ?_)
    clear hL
    intro b7 w7 hL
    have hS:=(show (fun w':World=>w'.cell? ⟨bx,ox+k*4,none⟩=some (.int .i64 lx)∧w'.cell? ⟨bx,ox+k*4+1,none⟩=some (.int .i64 cy)) _ from ⟨(CtHere.cells hL.fact0).1,(CtHere.cells hL.fact0).2.1⟩)
    refine ⟨hS,?_⟩
    clear hS
    simp only [Act.put,setP]
    refine wpH_one (i:=15) (by kernel_rfl) (wpOf ?_)
    refine st_append rfl _ _ _ rfl (.slice g4 (acc.length+ces.length) c4) (.slice (some ⟨b7,0,none⟩) 1 1) rfl rfl (appendA hL ?_)
    clear hL
    intro ng ncap w8 hL
    have hS:=(show (fun w':World=>w'.cell? ⟨bx,ox+k*4,none⟩=some (.int .i64 lx)∧w'.cell? ⟨bx,ox+k*4+1,none⟩=some (.int .i64 cy)) _ from ⟨(CtHere.cells hL.fact0).1,(CtHere.cells hL.fact0).2.1⟩)
    refine ⟨hS,?_⟩
    simp only [Act.put,setP]
    refine dsH 16 (.slice (some ⟨ng,0,none⟩) (acc.length+ces.length+1) ncap) hS ?_
    refine wpAnyH_done (by kernel_rfl) ?_ _
    clear hS
    go_wp2
    go_roundw
    case rel =>
     refine ⟨k+1,acc++(ces++[⟨lx,ly,false,0,0,lx,cy⟩]),by omega,by go_num,by rw [HN.out,HE.out],?_⟩
     have hL2:=hL.forget
     rw [List.length_append,List.length_append,List.map_append,List.flatten_append,List.map_append,List.flatten_append,←List.append_assoc,←Nat.add_assoc]
     exact hL2
    case measure=>simp [intOf];omega
  ·have e:k=cts.length:=by omega
   subst e
   have HA:=Lib.hid (show L=acc by rw [hacc,HR.out])
   clear hacc
   obtain ⟨g,oc,rfl⟩:=own_slice hL .here
   obtain ⟨n1,n2,n3⟩:=tok3
   go_wp2_with (first|(with_reducible first|(clear hL;intro _ _ _ hL;try dsimp only at hL)|(clear hL n1;intro b1 w1 hL)|(clear hL n2;intro b2 w2 hL)|(clear hL n3;intro b3 w3 hL)|(clear hL;intro _ _ hL))|((with_reducible refine wpA_lit rfl _ _ _ rfl ?_);first|refine litA1 hL ?_|refine litA2 hL ?_)|((with_reducible refine goJ rfl ?_);refine goW ?_))
   go_ret
   rw [HA.out]
   exact ⟨_,rfl,hL.below,(hL.settle .here (φ:=fun w=>EdgesAt w (.slice g acc.length oc) acc) fun w h=>own_sliceAt h (by rw [List.length_map]) rfl (edgeC_len _)).fresh⟩
end Go.Proofs.YtmnoeoecjfhhbaaGreat
