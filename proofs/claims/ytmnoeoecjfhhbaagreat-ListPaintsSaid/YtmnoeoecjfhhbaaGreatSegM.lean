/- Package path: May. -/
import Derived.Test.YtmnoeoecjfhhbaaGreatBowM
import Derived.WalkMore
namespace Go.Proofs.YtmnoeoecjfhhbaaGreat
open Go.RowKit
structure Sg where
 kind:Int
 x:Int
 y:Int
 cx:Int
 cy:Int
instance : Inhabited Sg := ⟨⟨0, 0, 0, 0, 0⟩⟩
def segC (s:Sg):List Value:=[.int .i64 s.kind,.int .i64 s.x,.int .i64 s.y,.int .i64 s.cx,.int .i64 s.cy]
def segV (s:Sg):Value:=.agg #[.int .i64 s.kind,.int .i64 s.x,.int .i64 s.y,.int .i64 s.cx,.int .i64 s.cy]
def SegsAt (w:World) (v:Value) (l:List Sg):Prop:=SliceAt w 5 v (l.map segC)
theorem SegsAt.hold {w0 w:World} {M:List Res} {Φ:List (World→Prop)} {v:Value} {l:List Sg} (h:SegsAt w0 v l) (hL:Holds w0 w M Φ):SegsAt w v l:=SliceAt.below h hL.below
theorem SegsAt.parts {w:World} {s:Value} {l:List Sg} (h:SegsAt w s l) :
  ∃ a cap,s=.slice a l.length cap∧l.length≤cap∧cap≤maxLen∧∀ i,i<l.length→∃ b o,a=some ⟨b,o,none⟩∧w.rangeAt b (o+i*5) (segC (l.getD i default)):=by
 obtain ⟨a,cap,h2,h3,h4,h5⟩:=h
 simp only [List.length_map] at h2 h3 h5
 refine ⟨a,cap,h2,h3,h4,fun i hi=>?_⟩
 obtain ⟨b,o,e,hr⟩:=h5 i hi
 refine ⟨b,o,e,?_⟩
 simp only [List.getElem_map] at hr
 rw [show l.getD i default=l[i] by simp [hi]]
 exact hr
theorem pathNear_calls (w:World) (v:Value) (l:List Int) (hv:NumsAt w v l):Calls Tryz.prog 74 #[v] w fun e w'=>e=.returned (.bool (l.all near1))∧Below w.heap.size w w':=by
 obtain ⟨a,cap,rfl,hlc,hcm,hel⟩:=hv.parts
 clear hv
 unfold maxLen at hcm
 have Hel:=Lib.hid hel;clear hel
 have hL:=Holds.start w
 go_enter Tryz.func74,Tryz.ntmps74
 go_wp2_with (first|((with_reducible refine goJ rfl ?_);refine goW ?_))
 go_loopw [7] (fun s7 wr=>∃ k:Nat,k≤l.length∧s7=.int .i64 k∧(l.take k).all near1=true∧Holds w wr [] [])
  (fun s7 wr=>l.length-(intOf s7).toNat)
 case atStart=>exact ⟨0,by omega,rfl,by simp,hL⟩
 case round =>
  clear hL
  obtain ⟨k,hk,rfl,hall,hL⟩:=hrel
  by_cases hkt:k<l.length
  ·obtain ⟨b,o,rfl,hc⟩:=Hel.out k hkt
   have hstep:(l.take (k+1)).all near1=((l.take k).all near1&&near1 (l.getD k 0)):=by
    rw [List.take_succ_eq_append_getElem hkt,List.all_append];simp [hkt]
   have hin:near1 (l.getD k 0)=false→l.all near1=false:=by
    intro h
    rw [List.all_eq_false]
    refine ⟨l[k],List.getElem_mem hkt,?_⟩
    rw [show l[k]=l.getD k 0 by simp [hkt],h];simp
   generalize l.getD k 0=z at *
   have Hstep:=Lib.hid hstep;have Hin:=Lib.hid hin;have Hall:=Lib.hid hall
   clear hstep hin hall
   have hkb:(k:Int)<(l.length:Int):=by omega
   rcases (by omega:z < -8191∨8191<z∨(-8191≤z∧z≤8191)) with hz|hz|⟨hz,hz2⟩
   ·go_wp2_with ((with_reducible refine goJ rfl ?_);refine goW ?_)
    go_ret
    exact ⟨ret_bool (Hin.out (by simp [near1];omega)).symm,hL.below⟩
   ·go_wp2_with ((with_reducible refine goJ rfl ?_);refine goW ?_)
    go_ret
    exact ⟨ret_bool (Hin.out (by simp [near1];omega)).symm,hL.below⟩
   ·go_wp2_with ((with_reducible refine goJ rfl ?_);refine goW ?_)
    go_roundw
    case rel=>exact ⟨k+1,by omega,by go_num,by rw [Hstep.out,Hall.out];simp [near1];omega,hL⟩
    case measure=>simp [intOf];omega
  ·have e:k=l.length:=by omega
   subst e
   rw [List.take_length] at hall
   have Hall:=Lib.hid hall;clear hall
   go_wp2_with (first|((with_reducible refine goJ rfl ?_);refine goW ?_))
   go_ret
   exact ⟨ret_bool Hall.out.symm,hL.below⟩
def rightS (s:Sg) (last:Int):Bool :=
 [s.x,s.y,s.cx,s.cy].all near1&&((decide (s.kind=3) || (decide (s.cx=0)&&decide (s.cy=0)))&&(if s.kind=1 then decide (last≠1) else if s.kind=4 then decide (last≠0)&&(decide (last≠4)&&(decide (s.x=0)&&decide (s.y=0))) else if s.kind=2∨s.kind=3 then decide (last≠0)&&decide (last≠4) else false))
def maySF (last:Int):List Sg→Bool
 | []=>true
 | s::l=>rightS s last&&maySF s.kind l
def pathMay (l:List Sg):Bool:=decide (l.length≤300)&&maySF 0 l
set_option maxRecDepth 100000 in
set_option maxHeartbeats 4000000 in
theorem right_calls (s:Sg) (last:Int) (w:World):Calls Tryz.prog 86 #[segV s,.int .i64 last] w fun e w'=>e=.returned (.bool (rightS s last))∧Below w.heap.size w w':=by
 obtain ⟨kind,x,y,cx,cy⟩:=s
 unfold segV
 dsimp only
 have hL:=Holds.start w
 cases hn:[x,y,cx,cy].all near1 with
 | false =>
  have HR:=Lib.hid (show rightS ⟨kind,x,y,cx,cy⟩ last=false by unfold rightS;rw [hn];rfl)
  generalize rightS ⟨kind,x,y,cx,cy⟩ last=R at *
  have Hn:=Lib.hid hn;clear hn
  obtain ⟨n1,n2⟩:=tok2
  go_enter Tryz.func86,Tryz.ntmps86
  go_wp2_with (first|(go_at_call 74;(refine (pathNear_calls _ _ [x,y,cx,cy] (hL.numsLit [x,y,cx,cy] atO (by rfl))).mono ?_);rintro e _ ⟨rfl,hb⟩;rw [Hn.out];replace hL:=hL.call hb;clear hb)|(with_reducible first|(clear hL n1;intro b1 w1 hL)|(clear hL n2;intro b2 w2 hL))|((with_reducible refine wpA_lit rfl _ _ _ rfl ?_);first|refine litA1 hL ?_|refine litA2 hL ?_|refine litA3 hL ?_|refine litA4 hL ?_|refine litA6 hL ?_)|((with_reducible refine goJ rfl ?_);refine goW ?_))
  go_ret
  exact ⟨ret_bool HR.out.symm,hL.below⟩
 | true =>
  have Hn:=Lib.hid hn
  rcases (by omega:(kind≠3∧cx≠0)∨(kind≠3∧cx=0∧cy≠0)∨(kind≠3∧cx=0∧cy=0)∨kind=3) with ⟨h3,h⟩|⟨h3,h,h2⟩|⟨h3,h,h2⟩|h3
  ·have HR:=Lib.hid (show rightS ⟨kind,x,y,cx,cy⟩ last=false by unfold rightS;rw [hn];simp [h3,h])
   generalize rightS ⟨kind,x,y,cx,cy⟩ last=R at *
   have d1:(kind != 3)=true:=by simp [h3]
   have d2:(cx != 0)=true:=by simp [h]
   clear hn h3 h
   obtain ⟨n1,n2⟩:=tok2
   go_enter Tryz.func86,Tryz.ntmps86
   go_wp2_with (first|(go_at_call 74;(refine (pathNear_calls _ _ [x,y,cx,cy] (hL.numsLit [x,y,cx,cy] atO (by rfl))).mono ?_);rintro e _ ⟨rfl,hb⟩;rw [Hn.out];replace hL:=hL.call hb;clear hb)|(with_reducible first|(clear hL n1;intro b1 w1 hL)|(clear hL n2;intro b2 w2 hL))|((with_reducible refine wpA_lit rfl _ _ _ rfl ?_);first|refine litA1 hL ?_|refine litA2 hL ?_|refine litA3 hL ?_|refine litA4 hL ?_|refine litA6 hL ?_)|((with_reducible refine goJ rfl ?_);refine goW ?_))
   go_ret
   exact ⟨ret_bool HR.out.symm,hL.below⟩
  ·subst h
   have HR:=Lib.hid (show rightS ⟨kind,x,y,0,cy⟩ last=false by unfold rightS;rw [hn];simp [h3,h2])
   generalize rightS ⟨kind,x,y,0,cy⟩ last=R at *
   have d1:(kind != 3)=true:=by simp [h3]
   have d2:(cy != 0)=true:=by simp [h2]
   clear hn h3 h2
   obtain ⟨n1,n2⟩:=tok2
   go_enter Tryz.func86,Tryz.ntmps86
   go_wp2_with (first|(go_at_call 74;(refine (pathNear_calls _ _ [x,y,0,cy] (hL.numsLit [x,y,0,cy] atO (by rfl))).mono ?_);rintro e _ ⟨rfl,hb⟩;rw [Hn.out];replace hL:=hL.call hb;clear hb)|(with_reducible first|(clear hL n1;intro b1 w1 hL)|(clear hL n2;intro b2 w2 hL))|((with_reducible refine wpA_lit rfl _ _ _ rfl ?_);first|refine litA1 hL ?_|refine litA2 hL ?_|refine litA3 hL ?_|refine litA4 hL ?_|refine litA6 hL ?_)|((with_reducible refine goJ rfl ?_);refine goW ?_))
   go_ret
   exact ⟨ret_bool HR.out.symm,hL.below⟩
  ·subst h;subst h2
   have d1:(kind != 3)=true:=by simp [h3]
   rcases (by omega:kind=1∨kind=2∨kind=4∨(kind≠1∧kind≠2∧kind≠4)) with h|h|h|⟨k1,k2,k4⟩
   ·subst h
    rcases (by omega:last=1∨last≠1) with g|g
    ·subst g
     have HR:=Lib.hid (show rightS ⟨1,x,y,0,0⟩ 1=false by unfold rightS;rw [hn];rfl)
     generalize rightS ⟨1,x,y,0,0⟩ 1=R at *
     clear hn
     obtain ⟨n1,n2⟩:=tok2
     go_enter Tryz.func86,Tryz.ntmps86
     go_wp2_with (first|(go_at_call 74;(refine (pathNear_calls _ _ [x,y,0,0] (hL.numsLit [x,y,0,0] atO (by rfl))).mono ?_);rintro e _ ⟨rfl,hb⟩;rw [Hn.out];replace hL:=hL.call hb;clear hb)|(with_reducible first|(clear hL n1;intro b1 w1 hL)|(clear hL n2;intro b2 w2 hL))|((with_reducible refine wpA_lit rfl _ _ _ rfl ?_);first|refine litA1 hL ?_|refine litA2 hL ?_|refine litA3 hL ?_|refine litA4 hL ?_|refine litA6 hL ?_)|((with_reducible refine goJ rfl ?_);refine goW ?_))
     go_ret
     exact ⟨ret_bool HR.out.symm,hL.below⟩
    ·have HR:=Lib.hid (show rightS ⟨1,x,y,0,0⟩ last=true by unfold rightS;rw [hn];simp [g])
     generalize rightS ⟨1,x,y,0,0⟩ last=R at *
     have d2:(last != 1)=true:=by simp [g]
     clear hn g
     obtain ⟨n1,n2⟩:=tok2
     go_enter Tryz.func86,Tryz.ntmps86
     go_wp2_with (first|(go_at_call 74;(refine (pathNear_calls _ _ [x,y,0,0] (hL.numsLit [x,y,0,0] atO (by rfl))).mono ?_);rintro e _ ⟨rfl,hb⟩;rw [Hn.out];replace hL:=hL.call hb;clear hb)|(with_reducible first|(clear hL n1;intro b1 w1 hL)|(clear hL n2;intro b2 w2 hL))|((with_reducible refine wpA_lit rfl _ _ _ rfl ?_);first|refine litA1 hL ?_|refine litA2 hL ?_|refine litA3 hL ?_|refine litA4 hL ?_|refine litA6 hL ?_)|((with_reducible refine goJ rfl ?_);refine goW ?_))
     go_ret
     exact ⟨ret_bool HR.out.symm,hL.below⟩
   ·subst h
    rcases (by omega:last=0∨last=4∨(last≠0∧last≠4)) with g|g|⟨g,g2⟩
    ·subst g
     have HR:=Lib.hid (show rightS ⟨2,x,y,0,0⟩ 0=false by unfold rightS;rw [hn];rfl)
     generalize rightS ⟨2,x,y,0,0⟩ 0=R at *
     clear hn
     obtain ⟨n1,n2⟩:=tok2
     go_enter Tryz.func86,Tryz.ntmps86
     go_wp2_with (first|(go_at_call 74;(refine (pathNear_calls _ _ [x,y,0,0] (hL.numsLit [x,y,0,0] atO (by rfl))).mono ?_);rintro e _ ⟨rfl,hb⟩;rw [Hn.out];replace hL:=hL.call hb;clear hb)|(with_reducible first|(clear hL n1;intro b1 w1 hL)|(clear hL n2;intro b2 w2 hL))|((with_reducible refine wpA_lit rfl _ _ _ rfl ?_);first|refine litA1 hL ?_|refine litA2 hL ?_|refine litA3 hL ?_|refine litA4 hL ?_|refine litA6 hL ?_)|((with_reducible refine goJ rfl ?_);refine goW ?_))
     go_ret
     exact ⟨ret_bool HR.out.symm,hL.below⟩
    ·subst g
     have HR:=Lib.hid (show rightS ⟨2,x,y,0,0⟩ 4=false by unfold rightS;rw [hn];rfl)
     generalize rightS ⟨2,x,y,0,0⟩ 4=R at *
     clear hn
     obtain ⟨n1,n2⟩:=tok2
     go_enter Tryz.func86,Tryz.ntmps86
     go_wp2_with (first|(go_at_call 74;(refine (pathNear_calls _ _ [x,y,0,0] (hL.numsLit [x,y,0,0] atO (by rfl))).mono ?_);rintro e _ ⟨rfl,hb⟩;rw [Hn.out];replace hL:=hL.call hb;clear hb)|(with_reducible first|(clear hL n1;intro b1 w1 hL)|(clear hL n2;intro b2 w2 hL))|((with_reducible refine wpA_lit rfl _ _ _ rfl ?_);first|refine litA1 hL ?_|refine litA2 hL ?_|refine litA3 hL ?_|refine litA4 hL ?_|refine litA6 hL ?_)|((with_reducible refine goJ rfl ?_);refine goW ?_))
     go_ret
     exact ⟨ret_bool HR.out.symm,hL.below⟩
    ·have HR:=Lib.hid (show rightS ⟨2,x,y,0,0⟩ last=true by unfold rightS;rw [hn];simp [g,g2])
     generalize rightS ⟨2,x,y,0,0⟩ last=R at *
     have d2:(last != 0)=true:=by simp [g]
     have d3:(last != 4)=true:=by simp [g2]
     clear hn g g2
     obtain ⟨n1,n2⟩:=tok2
     go_enter Tryz.func86,Tryz.ntmps86
     go_wp2_with (first|(go_at_call 74;(refine (pathNear_calls _ _ [x,y,0,0] (hL.numsLit [x,y,0,0] atO (by rfl))).mono ?_);rintro e _ ⟨rfl,hb⟩;rw [Hn.out];replace hL:=hL.call hb;clear hb)|(with_reducible first|(clear hL n1;intro b1 w1 hL)|(clear hL n2;intro b2 w2 hL))|((with_reducible refine wpA_lit rfl _ _ _ rfl ?_);first|refine litA1 hL ?_|refine litA2 hL ?_|refine litA3 hL ?_|refine litA4 hL ?_|refine litA6 hL ?_)|((with_reducible refine goJ rfl ?_);refine goW ?_))
     go_ret
     exact ⟨ret_bool HR.out.symm,hL.below⟩
   ·subst h
    rcases (by omega:last=0∨last=4∨(last≠0∧last≠4∧x≠0)∨(last≠0∧last≠4∧x=0∧y≠0)∨(last≠0∧last≠4∧x=0∧y=0)) with g|g|⟨g,g2,g3⟩|⟨g,g2,g3,g4⟩|⟨g,g2,g3,g4⟩
    ·subst g
     have HR:=Lib.hid (show rightS ⟨4,x,y,0,0⟩ 0=false by unfold rightS;rw [hn];rfl)
     generalize rightS ⟨4,x,y,0,0⟩ 0=R at *
     clear hn
     obtain ⟨n1,n2⟩:=tok2
     go_enter Tryz.func86,Tryz.ntmps86
     go_wp2_with (first|(go_at_call 74;(refine (pathNear_calls _ _ [x,y,0,0] (hL.numsLit [x,y,0,0] atO (by rfl))).mono ?_);rintro e _ ⟨rfl,hb⟩;rw [Hn.out];replace hL:=hL.call hb;clear hb)|(with_reducible first|(clear hL n1;intro b1 w1 hL)|(clear hL n2;intro b2 w2 hL))|((with_reducible refine wpA_lit rfl _ _ _ rfl ?_);first|refine litA1 hL ?_|refine litA2 hL ?_|refine litA3 hL ?_|refine litA4 hL ?_|refine litA6 hL ?_)|((with_reducible refine goJ rfl ?_);refine goW ?_))
     go_ret
     exact ⟨ret_bool HR.out.symm,hL.below⟩
    ·subst g
     have HR:=Lib.hid (show rightS ⟨4,x,y,0,0⟩ 4=false by unfold rightS;rw [hn];rfl)
     generalize rightS ⟨4,x,y,0,0⟩ 4=R at *
     clear hn
     obtain ⟨n1,n2⟩:=tok2
     go_enter Tryz.func86,Tryz.ntmps86
     go_wp2_with (first|(go_at_call 74;(refine (pathNear_calls _ _ [x,y,0,0] (hL.numsLit [x,y,0,0] atO (by rfl))).mono ?_);rintro e _ ⟨rfl,hb⟩;rw [Hn.out];replace hL:=hL.call hb;clear hb)|(with_reducible first|(clear hL n1;intro b1 w1 hL)|(clear hL n2;intro b2 w2 hL))|((with_reducible refine wpA_lit rfl _ _ _ rfl ?_);first|refine litA1 hL ?_|refine litA2 hL ?_|refine litA3 hL ?_|refine litA4 hL ?_|refine litA6 hL ?_)|((with_reducible refine goJ rfl ?_);refine goW ?_))
     go_ret
     exact ⟨ret_bool HR.out.symm,hL.below⟩
    ·have HR:=Lib.hid (show rightS ⟨4,x,y,0,0⟩ last=false by unfold rightS;rw [hn];simp [g,g2,g3])
     generalize rightS ⟨4,x,y,0,0⟩ last=R at *
     have d2:(last != 0)=true:=by simp [g]
     have d3:(last != 4)=true:=by simp [g2]
     have d4:(x == 0)=false:=by simp [g3]
     clear hn g g2 g3
     obtain ⟨n1,n2⟩:=tok2
     go_enter Tryz.func86,Tryz.ntmps86
     go_wp2_with (first|(go_at_call 74;(refine (pathNear_calls _ _ [x,y,0,0] (hL.numsLit [x,y,0,0] atO (by rfl))).mono ?_);rintro e _ ⟨rfl,hb⟩;rw [Hn.out];replace hL:=hL.call hb;clear hb)|(with_reducible first|(clear hL n1;intro b1 w1 hL)|(clear hL n2;intro b2 w2 hL))|((with_reducible refine wpA_lit rfl _ _ _ rfl ?_);first|refine litA1 hL ?_|refine litA2 hL ?_|refine litA3 hL ?_|refine litA4 hL ?_|refine litA6 hL ?_)|((with_reducible refine goJ rfl ?_);refine goW ?_))
     go_ret
     exact ⟨ret_bool HR.out.symm,hL.below⟩
    ·subst g3
     have HR:=Lib.hid (show rightS ⟨4,0,y,0,0⟩ last=false by unfold rightS;rw [hn];simp [g,g2,g4])
     generalize rightS ⟨4,0,y,0,0⟩ last=R at *
     have d2:(last != 0)=true:=by simp [g]
     have d3:(last != 4)=true:=by simp [g2]
     have d4:(y == 0)=false:=by simp [g4]
     clear hn g g2 g4
     obtain ⟨n1,n2⟩:=tok2
     go_enter Tryz.func86,Tryz.ntmps86
     go_wp2_with (first|(go_at_call 74;(refine (pathNear_calls _ _ [0,y,0,0] (hL.numsLit [0,y,0,0] atO (by rfl))).mono ?_);rintro e _ ⟨rfl,hb⟩;rw [Hn.out];replace hL:=hL.call hb;clear hb)|(with_reducible first|(clear hL n1;intro b1 w1 hL)|(clear hL n2;intro b2 w2 hL))|((with_reducible refine wpA_lit rfl _ _ _ rfl ?_);first|refine litA1 hL ?_|refine litA2 hL ?_|refine litA3 hL ?_|refine litA4 hL ?_|refine litA6 hL ?_)|((with_reducible refine goJ rfl ?_);refine goW ?_))
     go_ret
     exact ⟨ret_bool HR.out.symm,hL.below⟩
    ·subst g3;subst g4
     have HR:=Lib.hid (show rightS ⟨4,0,0,0,0⟩ last=true by unfold rightS;rw [hn];simp [g,g2])
     generalize rightS ⟨4,0,0,0,0⟩ last=R at *
     have d2:(last != 0)=true:=by simp [g]
     have d3:(last != 4)=true:=by simp [g2]
     clear hn g g2
     obtain ⟨n1,n2⟩:=tok2
     go_enter Tryz.func86,Tryz.ntmps86
     go_wp2_with (first|(go_at_call 74;(refine (pathNear_calls _ _ [0,0,0,0] (hL.numsLit [0,0,0,0] atO (by rfl))).mono ?_);rintro e _ ⟨rfl,hb⟩;rw [Hn.out];replace hL:=hL.call hb;clear hb)|(with_reducible first|(clear hL n1;intro b1 w1 hL)|(clear hL n2;intro b2 w2 hL))|((with_reducible refine wpA_lit rfl _ _ _ rfl ?_);first|refine litA1 hL ?_|refine litA2 hL ?_|refine litA3 hL ?_|refine litA4 hL ?_|refine litA6 hL ?_)|((with_reducible refine goJ rfl ?_);refine goW ?_))
     go_ret
     exact ⟨ret_bool HR.out.symm,hL.below⟩
   ·have HR:=Lib.hid (show rightS ⟨kind,x,y,0,0⟩ last=false by unfold rightS;rw [hn];simp [h3,k1,k2,k4])
    generalize rightS ⟨kind,x,y,0,0⟩ last=R at *
    have d2:(kind == 1)=false:=by simp [k1]
    have d3:(kind == 2)=false:=by simp [k2]
    have d4:(kind == 4)=false:=by simp [k4]
    have d5:(kind == 3)=false:=by simp [h3]
    clear hn h3 k1 k2 k4
    obtain ⟨n1,n2⟩:=tok2
    go_enter Tryz.func86,Tryz.ntmps86
    go_wp2_with (first|(go_at_call 74;(refine (pathNear_calls _ _ [x,y,0,0] (hL.numsLit [x,y,0,0] atO (by rfl))).mono ?_);rintro e _ ⟨rfl,hb⟩;rw [Hn.out];replace hL:=hL.call hb;clear hb)|(with_reducible first|(clear hL n1;intro b1 w1 hL)|(clear hL n2;intro b2 w2 hL))|((with_reducible refine wpA_lit rfl _ _ _ rfl ?_);first|refine litA1 hL ?_|refine litA2 hL ?_|refine litA3 hL ?_|refine litA4 hL ?_|refine litA6 hL ?_)|((with_reducible refine goJ rfl ?_);refine goW ?_))
    go_ret
    exact ⟨ret_bool HR.out.symm,hL.below⟩
  ·subst h3
   rcases (by omega:last=0∨last=4∨(last≠0∧last≠4)) with g|g|⟨g,g2⟩
   ·subst g
    have HR:=Lib.hid (show rightS ⟨3,x,y,cx,cy⟩ 0=false by unfold rightS;rw [hn];simp)
    generalize rightS ⟨3,x,y,cx,cy⟩ 0=R at *
    clear hn
    obtain ⟨n1,n2⟩:=tok2
    go_enter Tryz.func86,Tryz.ntmps86
    go_wp2_with (first|(go_at_call 74;(refine (pathNear_calls _ _ [x,y,cx,cy] (hL.numsLit [x,y,cx,cy] atO (by rfl))).mono ?_);rintro e _ ⟨rfl,hb⟩;rw [Hn.out];replace hL:=hL.call hb;clear hb)|(with_reducible first|(clear hL n1;intro b1 w1 hL)|(clear hL n2;intro b2 w2 hL))|((with_reducible refine wpA_lit rfl _ _ _ rfl ?_);first|refine litA1 hL ?_|refine litA2 hL ?_|refine litA3 hL ?_|refine litA4 hL ?_|refine litA6 hL ?_)|((with_reducible refine goJ rfl ?_);refine goW ?_))
    go_ret
    exact ⟨ret_bool HR.out.symm,hL.below⟩
   ·subst g
    have HR:=Lib.hid (show rightS ⟨3,x,y,cx,cy⟩ 4=false by unfold rightS;rw [hn];simp)
    generalize rightS ⟨3,x,y,cx,cy⟩ 4=R at *
    clear hn
    obtain ⟨n1,n2⟩:=tok2
    go_enter Tryz.func86,Tryz.ntmps86
    go_wp2_with (first|(go_at_call 74;(refine (pathNear_calls _ _ [x,y,cx,cy] (hL.numsLit [x,y,cx,cy] atO (by rfl))).mono ?_);rintro e _ ⟨rfl,hb⟩;rw [Hn.out];replace hL:=hL.call hb;clear hb)|(with_reducible first|(clear hL n1;intro b1 w1 hL)|(clear hL n2;intro b2 w2 hL))|((with_reducible refine wpA_lit rfl _ _ _ rfl ?_);first|refine litA1 hL ?_|refine litA2 hL ?_|refine litA3 hL ?_|refine litA4 hL ?_|refine litA6 hL ?_)|((with_reducible refine goJ rfl ?_);refine goW ?_))
    go_ret
    exact ⟨ret_bool HR.out.symm,hL.below⟩
   ·have HR:=Lib.hid (show rightS ⟨3,x,y,cx,cy⟩ last=true by unfold rightS;rw [hn];simp [g,g2])
    generalize rightS ⟨3,x,y,cx,cy⟩ last=R at *
    have d2:(last != 0)=true:=by simp [g]
    have d3:(last != 4)=true:=by simp [g2]
    clear hn g g2
    obtain ⟨n1,n2⟩:=tok2
    go_enter Tryz.func86,Tryz.ntmps86
    go_wp2_with (first|(go_at_call 74;(refine (pathNear_calls _ _ [x,y,cx,cy] (hL.numsLit [x,y,cx,cy] atO (by rfl))).mono ?_);rintro e _ ⟨rfl,hb⟩;rw [Hn.out];replace hL:=hL.call hb;clear hb)|(with_reducible first|(clear hL n1;intro b1 w1 hL)|(clear hL n2;intro b2 w2 hL))|((with_reducible refine wpA_lit rfl _ _ _ rfl ?_);first|refine litA1 hL ?_|refine litA2 hL ?_|refine litA3 hL ?_|refine litA4 hL ?_|refine litA6 hL ?_)|((with_reducible refine goJ rfl ?_);refine goW ?_))
    go_ret
    exact ⟨ret_bool HR.out.symm,hL.below⟩
open Go.RowKit
def lastK (l:List Sg) (k:Nat):Int:=if k=0 then 0 else (l.getD (k-1) default).kind
theorem lastK_succ (l:List Sg) (k:Nat):lastK l (k+1)=(l.getD k default).kind:=by unfold lastK;rw [if_neg (by omega)];rfl
theorem maySF_step {l:List Sg} {k:Nat} (h:k<l.length) (last:Int):maySF last (l.drop k)=(rightS (l.getD k default) last&&maySF (l.getD k default).kind (l.drop (k+1))):=by
 rw [List.drop_eq_getElem_cons h]
 simp [maySF,h]
set_option maxRecDepth 100000 in
set_option maxHeartbeats 2000000 in
theorem pathMay_calls (w:World) (v:Value) (l:List Sg) (hv:SegsAt w v l):Calls Tryz.prog 45 #[v] w fun e w'=>e=.returned (.bool (pathMay l))∧Below w.heap.size w w':=by
 obtain ⟨a,cap,rfl,hlc,hcm,hel⟩:=hv.parts
 clear hv
 unfold maxLen at hcm
 have Hel:=Lib.hid hel;clear hel
 have hL:=Holds.start w
 by_cases hbig:(300:Int)<(l.length:Int)
 ·have HR:=Lib.hid (show pathMay l=false by unfold pathMay;rw [decide_eq_false (by omega)];rfl)
  generalize pathMay l=R at *
  go_enter Tryz.func45,Tryz.ntmps45
  go_wp2_with (first|(with_reducible first|(clear hL;intro _ _ hL)|(clear hL;intro _ hL))|((with_reducible refine goJ rfl ?_);refine goW ?_))
  go_step3
  go_wp2_with (first|(with_reducible first|(clear hL;intro _ _ hL)|(clear hL;intro _ hL))|((with_reducible refine goJ rfl ?_);refine goW ?_))
  try rw [Exit.noGoto_ret]
  go_ret
  exact ⟨ret_bool HR.out.symm,hL.below⟩
 ·have HR:=Lib.hid (show pathMay l=maySF 0 l by unfold pathMay;rw [decide_eq_true (by omega)];rfl)
  generalize pathMay l=R at *
  go_enter Tryz.func45,Tryz.ntmps45
  go_wp2_with (first|(with_reducible first|(clear hL;intro _ _ hL)|(clear hL;intro _ hL))|((with_reducible refine goJ rfl ?_);refine goW ?_))
  go_step3
  go_wp2_with (first|(with_reducible first|(clear hL;intro _ _ hL)|(clear hL;intro _ hL))|((with_reducible refine goJ rfl ?_);refine goW ?_))
  go_step3
  go_wp2_with (first|(with_reducible first|(clear hL;intro _ _ hL)|(clear hL;intro _ hL))|((with_reducible refine goJ rfl ?_);refine goW ?_))
  go_loopw [3,4,12] (fun s3 s4 s12 wr=>∃ k:Nat,k≤l.length∧s12=.int .i64 k∧s3=.int .i64 (lastK l k)∧s4=.bool true∧maySF 0 l=maySF (lastK l k) (l.drop k)∧Holds w wr [] [])
   (fun s3 s4 s12 wr=>l.length-(intOf s12).toNat)
  case atStart=>exact ⟨0,by omega,rfl,rfl,rfl,rfl,hL⟩
  case round =>
   clear hL
   obtain ⟨k,hk,rfl,rfl,rfl,hm,hL⟩:=hrel
   by_cases hkt:k<l.length
   ·obtain ⟨b,o,rfl,hc⟩:=Hel.out k hkt
    rw [maySF_step hkt] at hm
    have Hm:=Lib.hid hm;clear hm
    have HLs:=Lib.hid (lastK_succ l k)
    have HC:=Lib.hid (fun w=>right_calls (l.getD k default) (lastK l k) w)
    generalize maySF 0 l=T at *
    generalize lastK l k=la at *
    generalize l.getD k default=s at *
    obtain ⟨kind,x,y,cx,cy⟩:=s
    unfold segV at HC
    unfold segC at hc
    dsimp only at HC hc HLs
    have hkb:(k:Int)<(l.length:Int):=by omega
    generalize rightS ⟨kind,x,y,cx,cy⟩ la=r at *
    cases r with
    | true =>
     have n1:True:=trivial
     go_wp2_with (first|(go_at_call 86;(with_reducible refine (HC.out _).mono ?_);rintro e _ ⟨rfl,hb⟩;replace hL:=hL.call hb;clear hb)|(with_reducible first|(clear hL n1;intro b1 w1 hL)|(clear hL;intro _ hL))|((with_reducible refine goJ rfl ?_);refine goW ?_))
     go_roundw
     case rel=>exact ⟨k+1,by omega,by go_num,by rw [HLs.out],rfl,by rw [Hm.out,Bool.true_and,HLs.out],hL.drop .here⟩
     case measure=>simp [intOf];omega
    | false =>
     have n1:True:=trivial
     go_wp2_with (first|(go_at_call 86;(with_reducible refine (HC.out _).mono ?_);rintro e _ ⟨rfl,hb⟩;replace hL:=hL.call hb;clear hb)|(with_reducible first|(clear hL n1;intro b1 w1 hL)|(clear hL;intro _ hL))|((with_reducible refine goJ rfl ?_);refine goW ?_))
     try rw [Exit.noGoto_ret]
     go_ret
     exact ⟨ret_bool (by rw [HR.out,Hm.out];rfl),hL.below⟩
   ·have e:k=l.length:=by omega
    subst e
    rw [List.drop_length] at hm
    have Hm:=Lib.hid hm;clear hm
    go_wp2_with (first|(with_reducible first|(clear hL n1;intro b1 w1 hL)|(clear hL;intro _ _ hL)|(clear hL;intro _ hL))|((with_reducible refine goJ rfl ?_);refine goW ?_))
    try rw [Exit.noGoto_ret]
    go_ret
    exact ⟨ret_bool (by rw [HR.out,Hm.out];rfl),hL.below⟩
end Go.Proofs.YtmnoeoecjfhhbaaGreat
