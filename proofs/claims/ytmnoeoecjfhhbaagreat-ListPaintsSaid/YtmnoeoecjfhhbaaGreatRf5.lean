/- Package tympanref36: At. -/
import Derived.Test.YtmnoeoecjfhhbaaGreatIm6
import Derived.Test.YtmnoeoecjfhhbaaGreatRf1
namespace Go.Proofs.YtmnoeoecjfhhbaaGreat
open Go.RowKit
theorem rIsFix_calls (v:Int) (w:World):Calls Tryz.prog 91 #[.int .i64 v] w fun e w'=>e=.returned (.bool (fixI v))∧w=w':=by
 have hR:fixI v=(decide (-1073741823≤v)&&decide (v≤1073741823)):=rfl
 generalize fixI v=R at *
 by_cases h1 : -1073741823≤v
 ·by_cases h2:v≤1073741823
  ·have HR:=Lib.hid (show R=true by rw [hR];simp [h1,h2])
   clear hR
   go_enter Tryz.func91,Tryz.ntmps91
   go_wp2
   go_ret
   exact ⟨ret_bool HR.out.symm,rfl⟩
  ·have HR:=Lib.hid (show R=false by rw [hR];simp [h2])
   clear hR
   go_enter Tryz.func91,Tryz.ntmps91
   go_wp2
   go_ret
   exact ⟨ret_bool HR.out.symm,rfl⟩
 ·have HR:=Lib.hid (show R=false by rw [hR];simp [h1])
  clear hR
  go_enter Tryz.func91,Tryz.ntmps91
  go_wp2
  go_ret
  exact ⟨ret_bool HR.out.symm,rfl⟩
theorem rIsSide_calls (v:Int) (w:World):Calls Tryz.prog 33 #[.int .i64 v] w fun e w'=>e=.returned (.bool (isSide v))∧w=w':=by
 have hR:isSide v=(decide (1≤v)&&decide (v≤64)):=by simp [isSide]
 generalize isSide v=R at *
 obtain ⟨b0,c0⟩:∃ b,decide (1≤v)=b:=⟨_,rfl⟩
 obtain ⟨b1,c1⟩:∃ b,decide (v≤64)=b:=⟨_,rfl⟩
 rw [c0,c1] at hR
 have HR:=Lib.hid hR
 clear hR
 rcases (show ∀ b0 b1:Bool,b0=false∨(b0=true∧b1=false)∨(b0=true∧b1=true) by decide) b0 b1 with rfl|⟨rfl,rfl⟩|⟨rfl,rfl⟩
 all_goals
  go_enter Tryz.func33,Tryz.ntmps33
  go_wp2
  go_ret
  exact ⟨ret_bool (by rw [HR.out];rfl),rfl⟩
theorem rRule_calls (v:Int) (w:World):Calls Tryz.prog 53 #[.int .i64 v] w fun e w'=>e=.returned (.bool (isRule v))∧w=w':=by
 rcases (by omega:v=0∨v=1∨(v≠0∧v≠1)) with rfl|rfl|⟨h1,h2⟩
 ·go_enter Tryz.func53,Tryz.ntmps53
  go_wp2
  go_ret
  exact ⟨rfl,rfl⟩
 ·go_enter Tryz.func53,Tryz.ntmps53
  go_wp2
  go_ret
  exact ⟨rfl,rfl⟩
 ·have HR:=Lib.hid (show isRule v=false by unfold isRule;simp [h1,h2])
  have d1:(v == 0)=false:=by simp [h1]
  have d2:(v == 1)=false:=by simp [h2]
  generalize isRule v=R at *
  go_enter Tryz.func53,Tryz.ntmps53
  go_wp2
  go_ret
  exact ⟨ret_bool HR.out.symm,rfl⟩
set_option maxRecDepth 100000 in
set_option maxHeartbeats 16000000 in
theorem rMatMay_calls (m:Mtx) (w:World):Calls Tryz.prog 57 #[mtxV m] w fun e w'=>e=.returned (.bool (mayMtx m))∧Below w.heap.size w w':=by
 obtain ⟨a,b,c,d,e,f⟩:=m
 unfold mtxV mayMtx
 dsimp only
 have HA:=Lib.hid (fun w=>rIsFix_calls a w)
 have HB:=Lib.hid (fun w=>rIsFix_calls b w)
 have HC:=Lib.hid (fun w=>rIsFix_calls c w)
 have HD:=Lib.hid (fun w=>rIsFix_calls d w)
 have HE:=Lib.hid (fun w=>rIsFix_calls e w)
 have HF:=Lib.hid (fun w=>rIsFix_calls f w)
 generalize fixI a=r0 at *
 generalize fixI b=r1 at *
 generalize fixI c=r2 at *
 generalize fixI d=r3 at *
 generalize fixI e=r4 at *
 generalize fixI f=r5 at *
 have hL:=Holds.start w
 cases r0
 ·have n1:True:=trivial
  go_enter Tryz.func57,Tryz.ntmps57
  go_wp2_with (first|(go_at_call 91;(with_reducible refine (HA.out _).mono ?_);rintro e _ ⟨rfl,rfl⟩)|(with_reducible (clear hL n1;intro b1 w1 hL))|((with_reducible refine goJ rfl ?_);refine goP ?_))
  go_ret
  exact ⟨rfl,hL.below⟩
 cases r1
 ·have n1:True:=trivial
  go_enter Tryz.func57,Tryz.ntmps57
  go_wp2_with (first|(go_at_call 91;(with_reducible first|refine (HA.out _).mono ?_|refine (HB.out _).mono ?_);rintro e _ ⟨rfl,rfl⟩)|(with_reducible (clear hL n1;intro b1 w1 hL))|((with_reducible refine goJ rfl ?_);refine goP ?_))
  go_ret
  exact ⟨rfl,hL.below⟩
 cases r2
 ·have n1:True:=trivial
  go_enter Tryz.func57,Tryz.ntmps57
  go_wp2_with (first|(go_at_call 91;(with_reducible first|refine (HA.out _).mono ?_|refine (HB.out _).mono ?_|refine (HC.out _).mono ?_);rintro e _ ⟨rfl,rfl⟩)|(with_reducible (clear hL n1;intro b1 w1 hL))|((with_reducible refine goJ rfl ?_);refine goP ?_))
  go_ret
  exact ⟨rfl,hL.below⟩
 cases r3
 ·have n1:True:=trivial
  go_enter Tryz.func57,Tryz.ntmps57
  go_wp2_with (first|(go_at_call 91;(with_reducible first|refine (HA.out _).mono ?_|refine (HB.out _).mono ?_|refine (HC.out _).mono ?_|refine (HD.out _).mono ?_);rintro e _ ⟨rfl,rfl⟩)|(with_reducible (clear hL n1;intro b1 w1 hL))|((with_reducible refine goJ rfl ?_);refine goP ?_))
  go_ret
  exact ⟨rfl,hL.below⟩
 cases r4
 ·have n1:True:=trivial
  go_enter Tryz.func57,Tryz.ntmps57
  go_wp2_with (first|(go_at_call 91;(with_reducible first|refine (HA.out _).mono ?_|refine (HB.out _).mono ?_|refine (HC.out _).mono ?_|refine (HD.out _).mono ?_|refine (HE.out _).mono ?_);rintro e _ ⟨rfl,rfl⟩)|(with_reducible (clear hL n1;intro b1 w1 hL))|((with_reducible refine goJ rfl ?_);refine goP ?_))
  go_ret
  exact ⟨rfl,hL.below⟩
 have n1:True:=trivial
 go_enter Tryz.func57,Tryz.ntmps57
 go_wp2_with (first|(go_at_call 91;(with_reducible first|refine (HA.out _).mono ?_|refine (HB.out _).mono ?_|refine (HC.out _).mono ?_|refine (HD.out _).mono ?_|refine (HE.out _).mono ?_|refine (HF.out _).mono ?_);rintro e _ ⟨rfl,rfl⟩)|(with_reducible (clear hL n1;intro b1 w1 hL))|((with_reducible refine goJ rfl ?_);refine goP ?_))
 go_ret
 exact ⟨ret_bool (by cases r5 <;> rfl),hL.below⟩
set_option maxRecDepth 100000 in
set_option maxHeartbeats 8000000 in
theorem rDet_calls (m:Mtx) (hm:mayMtx m=true) (w:World):Calls Tryz.prog 58 #[mtxV m] w fun e w'=>e=.returned (.int .i64 (detM m))∧Below w.heap.size w w':=by
 obtain ⟨h1,h2,h3,h4,_,_⟩:=fix_bd hm
 have hb:=det_bd hm
 obtain ⟨a,b,c,d,e,f⟩:=m
 unfold detM at *
 unfold mtxV
 dsimp only at *
 have e1:=mul_bd h1.1 h1.2 h4.1 h4.2
 have e2:=mul_bd h2.1 h2.2 h3.1 h3.2
 generalize hx:a*d=x at *
 generalize hy:b*c=y at *
 have w1:IntKind.i64.wrap x=x:=wrapS (by omega) (by omega)
 have w2:IntKind.i64.wrap y=y:=wrapS (by omega) (by omega)
 have w3:IntKind.i64.wrap (x-y)=x-y:=wrapS (by omega) (by omega)
 have hL:=Holds.start w
 have n1:True:=trivial
 go_enter Tryz.func58,Tryz.ntmps58
 go_wp2_with (first|(with_reducible (clear hL n1;intro b1 w1 hL))|((with_reducible refine goJ rfl ?_);refine goP ?_))
 go_ret
 exact ⟨rfl,hL.below⟩
open Go.RowKit
set_option maxRecDepth 100000 in
set_option maxHeartbeats 8000000 in
theorem rBytesOf_calls (i:Img) (hw:1≤i.W∧i.W≤64) (hb:i.bits=1∨i.bits=2∨i.bits=4∨i.bits=8) (w:World):Calls Tryz.prog 90 #[imgV i] w fun e w'=>e=.returned (.int .i64 (rowI i))∧Below w.heap.size w w':=by
 have hR:rowI i=(i.W*i.bits+7) / 8:=rfl
 have hB:0≤i.W*i.bits∧i.W*i.bits≤512:=by rcases hb with e|e|e|e <;> rw [e] <;> omega
 generalize rowI i=R at *
 obtain ⟨W,H,bits,data⟩:=i
 unfold imgV
 dsimp only at *
 clear hb
 have w1:IntKind.i64.wrap (W*bits)=W*bits:=wrapS (by omega) (by omega)
 have hd:(W*bits+7).tdiv 8=R:=by rw [hR,Int.tdiv_eq_ediv_of_nonneg (by omega)]
 have hRb:0≤R∧R≤64:=by omega
 clear hR
 generalize hn:W*bits=n at *
 have hL:=Holds.start w
 have n1:True:=trivial
 go_enter Tryz.func90,Tryz.ntmps90
 go_wp2_with (first|(with_reducible (clear hL n1;intro b1 w1 hL))|((with_reducible refine goJ rfl ?_);refine goP ?_))
 go_ret
 exact ⟨by first|rfl|(rw [←hd];go_num),hL.below⟩
set_option maxRecDepth 100000 in
set_option maxHeartbeats 8000000 in
theorem rDiv_calls (a b:Int) (hb:b≠0) (h1 : -4611686018427387904≤a) (h2:a≤4611686018427387904) (w:World):Calls Tryz.prog 121 #[.int .i64 a,.int .i64 b] w fun e w'=>e=.returned (.int .i64 (a.fdiv b))∧w=w':=by
 have hd:=div_ref a b hb
 have hq:=tdiv_bd (b:=b) h1 h2
 generalize a.fdiv b=R at *
 have m0:(b == 0)=false:=by simp;omega
 generalize hq2:a.tdiv b=q at *
 generalize hr2:a.tmod b=r at *
 have wq:IntKind.i64.wrap q=q:=wrapS (by omega) (by omega)
 have wq2:IntKind.i64.wrap (q-1)=q-1:=wrapS (by omega) (by omega)
 by_cases hr:r=0
 ·have d1:(r != 0)=false:=by simp [hr]
  have HR:=Lib.hid (show R=q by rw [←hd,if_neg (by simp [hr])])
  clear hd
  clear hr
  go_enter Tryz.func121,Tryz.ntmps121
  go_wp2
  go_ret
  exact ⟨by rw [HR.out];first|rfl|go_num,rfl⟩
 have d1:(r != 0)=true:=by simp [hr]
 by_cases ha:a<0
 ·by_cases hbn:b<0
  ·have HR:=Lib.hid (show R=q by rw [←hd,if_neg (by simp [ha,hbn])])
   clear hd hr
   go_enter Tryz.func121,Tryz.ntmps121
   go_wp2
   go_ret
   exact ⟨by rw [HR.out];first|rfl|go_num,rfl⟩
  ·have HR:=Lib.hid (show R=q-1 by rw [←hd,if_pos ⟨hr,by simp [ha,hbn]⟩])
   clear hd hr
   go_enter Tryz.func121,Tryz.ntmps121
   go_wp2
   go_ret
   exact ⟨by rw [HR.out];first|rfl|go_num,rfl⟩
 ·by_cases hbn:b<0
  ·have HR:=Lib.hid (show R=q-1 by rw [←hd,if_pos ⟨hr,by simp [ha,hbn]⟩])
   clear hd hr
   go_enter Tryz.func121,Tryz.ntmps121
   go_wp2
   go_ret
   exact ⟨by rw [HR.out];first|rfl|go_num,rfl⟩
  ·have HR:=Lib.hid (show R=q by rw [←hd,if_neg (by simp [ha,hbn])])
   clear hd hr
   go_enter Tryz.func121,Tryz.ntmps121
   go_wp2
   go_ret
   exact ⟨by rw [HR.out];first|rfl|go_num,rfl⟩
open Go.RowKit
theorem four_ways2:∀ b0 b1 b2 b3:Bool,b0=true∨(b0=false∧b1=true)∨(b0=false∧b1=false∧b2=true)∨(b0=false∧b1=false∧b2=false∧b3=true)∨(b0=false∧b1=false∧b2=false∧b3=false):=by decide
set_option maxRecDepth 100000 in
set_option maxHeartbeats 16000000 in
theorem rMayImage_calls (i:Img) (hl:i.data.size≤maxLen) (w:World):Calls Tryz.prog 56 #[imgV i] w fun e w'=>e=.returned (.bool (mayImg i))∧Below w.heap.size w w':=by
 have hR:mayImg i=((decide (i.bits=1) || (decide (i.bits=2) || (decide (i.bits=4) || decide (i.bits=8))))&&((decide (1≤i.W)&&decide (i.W≤64))&&((decide (1≤i.H)&&decide (i.H≤64))&&decide ((i.data.size:Int)=i.H*rowI i)))):=rfl
 have hRow:=fun h1 h2 w=>rBytesOf_calls i h1 h2 w
 have hrb:=fun h1 h2=>rowI_bd1 (i:=i) h1 h2
 unfold maxLen at hl
 generalize mayImg i=R at *
 generalize rowI i=ro at *
 obtain ⟨W,H,bits,data⟩:=i
 unfold imgV at *
 dsimp only at *
 have hsz:(data.size:Int)≤9223372036854775807:=by omega
 have hL:=Holds.start w
 obtain ⟨b0,c0⟩:∃ b,decide (W<1)=b:=⟨_,rfl⟩
 obtain ⟨b1,c1⟩:∃ b,decide (64<W)=b:=⟨_,rfl⟩
 obtain ⟨b2,c2⟩:∃ b,decide (H<1)=b:=⟨_,rfl⟩
 obtain ⟨b3,c3⟩:∃ b,decide (64<H)=b:=⟨_,rfl⟩
 have i0:decide (1≤W) = !b0:=by rw [←c0,←decide_not];exact decide_eq_decide.2 (by omega)
 have i1:decide (W≤64) = !b1:=by rw [←c1,←decide_not];exact decide_eq_decide.2 (by omega)
 have i2:decide (1≤H) = !b2:=by rw [←c2,←decide_not];exact decide_eq_decide.2 (by omega)
 have i3:decide (H≤64) = !b3:=by rw [←c3,←decide_not];exact decide_eq_decide.2 (by omega)
 rcases bits_cases bits with hb|⟨h1,h2,h4,h8⟩
 ·have hbb:(decide (bits=1) || (decide (bits=2) || (decide (bits=4) || decide (bits=8))))=true:=by rcases hb with e|e|e|e <;> subst e <;> rfl
  rw [hbb,Bool.true_and] at hR
  have HRow:=Lib.hid (fun (h0:b0=false) (h1:b1=false) w=>hRow ⟨of_decide_eq_true (by rw [i0,h0];rfl),of_decide_eq_true (by rw [i1,h1];rfl)⟩ hb w)
  have hwr:b0=false→b1=false→b2=false→b3=false→IntKind.i64.wrap (H*ro)=H*ro:=fun h0 h1 h2 h3=>by
   have g0:=of_decide_eq_true (i0.trans (by rw [h0];rfl))
   have g1:=of_decide_eq_true (i1.trans (by rw [h1];rfl))
   have g2:=of_decide_eq_true (i2.trans (by rw [h2];rfl))
   have g3:=of_decide_eq_true (i3.trans (by rw [h3];rfl))
   have g4:=hrb ⟨g0,g1⟩ hb
   have:=Int.mul_le_mul (show H≤64 by omega) (show ro≤64 by omega) (by omega) (by omega)
   have h5:0≤H*ro:=Int.mul_nonneg (by omega) (by omega)
   exact wrapS (by omega) (by omega)
  rw [i0,i1,i2,i3] at hR
  clear hRow hrb hbb i0 i1 i2 i3
  generalize hHr:H*ro=hr at *
  have HR:=Lib.hid hR
  clear hR
  rcases four_ways2 b0 b1 b2 b3 with rfl|⟨rfl,rfl⟩|⟨rfl,rfl,rfl⟩|⟨rfl,rfl,rfl,rfl⟩|⟨rfl,rfl,rfl,rfl⟩
  iterate 4
   ·have n1:True:=trivial
    go_enter Tryz.func56,Tryz.ntmps56
    go_wp2_with (first|(with_reducible (clear hL n1;intro b1 w1 hL))|((with_reducible refine goJ rfl ?_);refine goP ?_))
    go_ret
    exact ⟨ret_bool (by rw [HR.out];rfl),hL.below⟩
  rcases hb with rfl|rfl|rfl|rfl
  all_goals
   have n1:True:=trivial
   go_enter Tryz.func56,Tryz.ntmps56
   go_wp2_with (first|(with_reducible (clear hL n1;intro b1 w1 hL))|((with_reducible refine goJ rfl ?_);refine goP ?_))
   refine wpH_holds (by kernel_rfl) hL fun hS=>?_
   replace hL:=hS
   refine deH 0 hS ?_
   refine dlH 1 ?_ hS (fun w' hw=>?_) ?_;rotate_left;(· refine loadA hw ?_;rfl)
   simp only [Act.put,setP]
   refine deH 2 hS ?_
   refine deH 3 hS ?_
   refine dlH 4 ?_ hS (fun w' hw=>?_) ?_;rotate_left;(· refine loadA hw ?_;rfl)
   simp only [Act.put,setP]
   refine dlH 5 ?_ hS (fun w' hw=>?_) ?_;rotate_left;(· refine loadR hw ?_;rfl)
   simp only [Act.put,setP]
   refine wpH_one (i:=6) (by kernel_rfl) (wpOf ?_)
   refine st_call rfl _ _ ?_ (HRow.out (by trivial) (by trivial) _) ?_
   (· go_simp;try with_reducible rfl)
   rintro e _ ⟨rfl,hb⟩
   replace hL:=hL.call hb
   replace hS:=hS.call hb
   clear hb
   refine ⟨_,rfl,hS,?_⟩
   simp only [Act.put,setP]
   refine deH 7 hS ?_
   refine deH 8 hS ?_
   refine deH 9 hS ?_
   refine wpAnyH_done (by kernel_rfl) ?_ _
   clear hS
   go_wp2
   go_ret
   exact ⟨ret_bool (by rw [HR.out];rfl),hL.below⟩
 ·have HR:=Lib.hid (show R=false by rw [hR];simp [h1,h2,h4,h8])
  clear hR hRow hrb i0 i1 i2 i3
  have q1:(bits != 1)=true:=by simp [h1]
  have q2:(bits != 2)=true:=by simp [h2]
  have q4:(bits != 4)=true:=by simp [h4]
  have q8:(bits != 8)=true:=by simp [h8]
  rcases four_ways2 b0 b1 b2 b3 with rfl|⟨rfl,rfl⟩|⟨rfl,rfl,rfl⟩|⟨rfl,rfl,rfl,rfl⟩|⟨rfl,rfl,rfl,rfl⟩
  all_goals
   have n1:True:=trivial
   go_enter Tryz.func56,Tryz.ntmps56
   go_wp2_with (first|(with_reducible (clear hL n1;intro b1 w1 hL))|((with_reducible refine goJ rfl ?_);refine goP ?_))
   go_ret
   exact ⟨ret_bool HR.out.symm,hL.below⟩
open Go.RowKit
set_option maxRecDepth 100000 in
set_option maxHeartbeats 8000000 in
theorem rClips_calls (l:List Clp) (a:Option Addr) (cap:Nat) (w:World) (hv:ClpsAt w (.slice a l.length cap) l):Calls Tryz.prog 36 #[.slice a l.length cap] w fun e w'=>e=.returned (.bool (mayClips l))∧Below w.heap.size w w':=by
 have hcm:l.length≤cap∧cap≤maxLen:=by obtain ⟨_,_,e,h1,h2,_⟩:=hv;cases e;exact ⟨h1,h2⟩
 unfold maxLen at hcm
 have HG:=Lib.hid (fun k (hk:k<l.length)=>ClpsAt.get hv hk)
 have HY:=Lib.hid (show (∀ i,i<l.length→(pathMay (l.getD i default).path&&isRule (l.getD i default).rule)=true)→mayClips l=decide (l.length≤10) from fun h=>by
  unfold mayClips
  rw [List.all_eq_true.2 (fun x hx=>by
   obtain ⟨i,hi,rfl⟩:=List.getElem_of_mem hx
   have:=h i hi
   rwa [getD_in _ hi] at this),Bool.true_and])
 have HN:=Lib.hid (show ∀ i,i<l.length→(pathMay (l.getD i default).path&&isRule (l.getD i default).rule)=false→mayClips l=false from fun i hi h=>by
  unfold mayClips
  rw [List.all_eq_false.2 ⟨l[i],List.getElem_mem hi,by rw [getD_in _ hi] at h;rw [h];decide⟩,Bool.false_and])
 have HPm:=Lib.hid (fun w' (hb:Below w.heap.size w w') v p (h:SegsAt w v p)=>rMay_calls w' v p (SliceAt.below h hb))
 generalize mayClips l=R at *
 clear hv
 generalize l.length=n at *
 have hL:=Holds.start w
 have n1:True:=trivial
 go_enter Tryz.func36,Tryz.ntmps36
 go_wp2_with (first|((with_reducible refine goJ rfl ?_);refine goP ?_))
 go_loopw [3] (fun s3 wr=>∃ k:Nat,k≤n∧s3=.int .i64 k∧(∀ i,i<k→(pathMay (l.getD i default).path&&isRule (l.getD i default).rule)=true)∧Holds w wr [] [])
  (fun s3 wr=>n-(intOf s3).toNat)
 case atStart=>exact ⟨0,by omega,rfl,fun i hi=>absurd hi (by omega),hL⟩
 case round =>
  clear hL
  obtain ⟨k,hk,rfl,hall,hL⟩:=hrel
  by_cases hkt:k<n
  ·obtain ⟨b,o,pa,pc,rfl,hr,hs,hp1,hp2⟩:=HG.out k hkt
   have hkb:(k:Int)<(n:Int):=by omega
   have e0:w.cell? ⟨b,o+k*2,none⟩=some (.slice pa (l.getD k default).path.length pc):=hr 0 _ rfl
   have e1:w.cell? ⟨b,o+k*2+1,none⟩=some (.int .i64 (l.getD k default).rule):=hr 1 _ rfl
   clear hr
   have HNk:=Lib.hid (HN.out k hkt)
   have HS:=Lib.hid (show (pathMay (l.getD k default).path&&isRule (l.getD k default).rule)=true→∀ i,i<k+1→(pathMay (l.getD i default).path&&isRule (l.getD i default).rule)=true from fun h i hi=>by
    rcases (by omega:i<k∨i=k) with h2|rfl
    ·exact hall i h2
    ·exact h)
   clear hall
   have HPk:=Lib.hid (fun w' (hb:Below w.heap.size w w')=>HPm.out w' hb _ _ hs)
   have HRk:=Lib.hid (fun w=>rRule_calls (l.getD k default).rule w)
   clear hs
   generalize (l.getD k default)=c at *
   obtain ⟨path,rule⟩:=c
   dsimp only at *
   unfold maxLen at hp1
   generalize pathMay path=bm at *
   generalize isRule rule=br at *
   generalize path.length=pn at *
   rcases (show ∀ b0 b1:Bool,(b0=false)∨(b0=true∧b1=false)∨(b0=true∧b1=true) by decide) br bm with rfl|⟨rfl,rfl⟩|⟨rfl,rfl⟩
   ·have HR:=Lib.hid (HNk.out (by first|rfl|(cases bm <;> rfl)))
    go_wp2_with (first|(go_at_call 52;(with_reducible refine (HPk.out _ hL.below).mono ?_);rintro e _ ⟨rfl,hb⟩;replace hL:=hL.call hb;clear hb)|(go_at_call 53;(with_reducible refine (HRk.out _).mono ?_);rintro e _ ⟨rfl,rfl⟩)|((with_reducible refine goJ rfl ?_);refine goP ?_))
    go_ret
    exact ⟨ret_bool HR.out.symm,hL.below⟩
   ·have HR:=Lib.hid (HNk.out (by first|rfl|(cases bm <;> rfl)))
    go_wp2_with (first|(go_at_call 52;(with_reducible refine (HPk.out _ hL.below).mono ?_);rintro e _ ⟨rfl,hb⟩;replace hL:=hL.call hb;clear hb)|(go_at_call 53;(with_reducible refine (HRk.out _).mono ?_);rintro e _ ⟨rfl,rfl⟩)|((with_reducible refine goJ rfl ?_);refine goP ?_))
    go_ret
    exact ⟨ret_bool HR.out.symm,hL.below⟩
   ·have HR:=Lib.hid (HS.out rfl)
    go_wp2_with (first|(go_at_call 52;(with_reducible refine (HPk.out _ hL.below).mono ?_);rintro e _ ⟨rfl,hb⟩;replace hL:=hL.call hb;clear hb)|(go_at_call 53;(with_reducible refine (HRk.out _).mono ?_);rintro e _ ⟨rfl,rfl⟩)|((with_reducible refine goJ rfl ?_);refine goP ?_))
    go_roundw
    case rel=>exact ⟨k+1,by omega,by go_num,HR.out,hL⟩
    case measure=>simp [intOf];omega
  ·have e:k=n:=by omega
   subst e
   have HF:=Lib.hid (HY.out hall)
   clear hall
   go_wp2_with (first|((with_reducible refine goJ rfl ?_);refine goP ?_))
   go_ret
   exact ⟨ret_bool (by rw [HF.out,decide_eq_decide];omega),hL.below⟩
set_option maxRecDepth 100000 in
set_option maxHeartbeats 8000000 in
theorem rWork_calls (w:World) (v:Value) (i:Itm) (h:ItmIs w v i) (hb1:i.path.length≤1000000) (hb2:i.clips.length≤1000000) (hb3:∀ c∈i.clips,c.path.length≤1000000):Calls Tryz.prog 21 #[v] w fun e w'=>e=.returned (.int .i64 (workI i))∧Below w.heap.size w w':=by
 obtain ⟨pa,pc,ca,cc,rfl,_,_,hcc,hcl,_,hC,_⟩:=h.val
 clear h
 unfold maxLen at hcc
 have HG:=Lib.hid (fun k (hk:k<i.clips.length)=>ClpsAt.get hC hk)
 have HR:=Lib.hid (workI_to i)
 have HW:=Lib.hid (fun k hk=>workTo_next i.clips k hk)
 have HL:=Lib.hid (workTo_le hb3)
 generalize workI i=R at *
 obtain ⟨kind,path,rule,⟨wd,cap,join⟩,⟨iw,ih,bits,data⟩,⟨a,b,c,d,e,f⟩,⟨kr,kg,kb,ka⟩,clips⟩:=i
 unfold itmV
 dsimp only at *
 clear hC hb3
 have HT0:=Lib.hid (show workTo clips 0=0 from rfl)
 generalize hT:workTo clips=T at *
 clear hT
 generalize path.length=pn at *
 generalize hcn:clips.length=cn at *
 clear hcn
 have hL:=Holds.start w
 have n1:True:=trivial
 go_enter Tryz.func21,Tryz.ntmps21
 go_wp2_with (first|(with_reducible (clear hL n1;intro b1 w1 hL))|((with_reducible refine goJ rfl ?_);refine goP ?_))
 go_loopw [3,4] (fun s3 s4 wr=>∃ k:Nat,k≤cn∧s4=.int .i64 k∧s3=.int .i64 ((pn+4+T k:Nat):Int)∧Holds w wr [blk b1 #[.int .i64 kind,.slice pa pn pc,.int .i64 rule,.int .i64 wd,.int .i64 cap,.int .i64 join,.int .i64 iw,.int .i64 ih,.int .i64 bits,.string data,.int .i64 a,.int .i64 b,.int .i64 c,.int .i64 d,.int .i64 e,.int .i64 f,.int .u8 kr,.int .u8 kg,.int .u8 kb,.int .u8 ka,.slice ca cn cc] 33] [])
  (fun s3 s4 wr=>cn-(intOf s4).toNat)
 case atStart =>
  refine ⟨0,by omega,rfl,?_,hL⟩
  rw [HT0.out]
  go_num
 case round =>
  clear hL
  obtain ⟨k,hk,rfl,rfl,hL⟩:=hrel
  have hTb:=HL.out k
  have hTb2:k*1000000≤cn*1000000:=Nat.mul_le_mul_right _ hk
  by_cases hkt:k<cn
  ·obtain ⟨b',o,pa',pc',rfl,hr,_,hp1,hp2⟩:=HG.out k hkt
   have e0:w.cell? ⟨b',o+k*2,none⟩=some (.slice pa' (clips.getD k default).path.length pc'):=hr 0 _ rfl
   clear hr
   have hkb:(k:Int)<(cn:Int):=by omega
   have hw:=HW.out k hkt
   have hTc:=HL.out (k+1)
   have hTc2:(k+1)*1000000≤cn*1000000:=Nat.mul_le_mul_right _ hkt
   have Hw:=Lib.hid hw
   generalize hT2:T (k+1)=t2 at *
   have HT2:=Lib.hid hT2
   clear hT2
   generalize (clips.getD k default)=c at *
   obtain ⟨path,rule⟩:=c
   dsimp only at *
   generalize path.length=qn at *
   generalize T k=t at *
   unfold maxLen at hp1
   go_wp2_with (first|(with_reducible (clear hL n1;intro b1 w1 hL))|((with_reducible refine goJ rfl ?_);refine goP ?_))
   go_roundw
   case rel =>
    refine ⟨k+1,by omega,by go_num,?_,hL⟩
    rw [HT2.out]
    go_num
   case measure=>simp [intOf];omega
  ·have e:k=cn:=by omega
   subst e
   go_wp2_with (first|(with_reducible (clear hL n1;intro b1 w1 hL))|((with_reducible refine goJ rfl ?_);refine goP ?_))
   go_ret
   exact ⟨ret_int HR.out.symm,hL.below⟩
open Go.RowKit
set_option maxRecDepth 100000 in
set_option maxHeartbeats 16000000 in
theorem rSample_calls (i:Img) (hl:i.data.size≤maxLen) (hi:mayImg i=true) (x y:Int) (w:World):Calls Tryz.prog 120 #[imgV i,.int .i64 x,.int .i64 y] w fun e w'=>e=.returned (.int .i64 (sampI i x y))∧Below w.heap.size w w':=by
 have hR:sampI i x y=if x<0∨i.W≤x∨y<0∨i.H≤y then -1 else byteI i.data (y*rowI i+x*i.bits / 8).toNat / 2^(8-i.bits-x*i.bits%8).toNat%2^i.bits.toNat:=rfl
 have ok:=mayImg_ok hi
 have HMI:=Lib.hid (fun w=>rMayImage_calls i hl w)
 rw [hi] at HMI
 clear hi hl
 have hP:=fun hx hy=>place_bd ok (x:=x) (y:=y) hx hy
 have hS:=shift_bd ok x
 have HRow:=Lib.hid (fun w=>rBytesOf_calls i ok.w ok.bits w)
 have hr:=rowI_bd ok
 have hbits:=ok.bits
 have hw:=ok.w
 have hh:=ok.h
 have hB:∀ k,0≤byteI i.data k∧byteI i.data k≤255:=fun k=>byteI_bd _ k
 clear ok
 generalize sampI i x y=R at *
 generalize rowI i=ro at *
 obtain ⟨W,H,bits,data⟩:=i
 unfold imgV at *
 dsimp only at *
 have hL:=Holds.start w
 rcases (by omega:x<0∨(0≤x∧W≤x)∨(0≤x∧x<W∧y<0)∨(0≤x∧x<W∧0≤y∧H≤y)∨(0≤x∧x<W∧0≤y∧y<H)) with g1|⟨g1,g2⟩|⟨g1,g2,g3⟩|⟨g1,g2,g3,g4⟩|⟨g1,g2,g3,g4⟩
 ·have HR:=Lib.hid (show R = -1 by rw [hR,if_pos (by omega)])
  clear hR hP hS HRow hB hbits
  have c0:decide (x<0)=true:=by simp;omega
  have n1:True:=trivial
  go_enter Tryz.func120,Tryz.ntmps120
  go_wp2_with (first|(go_at_call 56;(with_reducible refine (HMI.out _).mono ?_);rintro e _ ⟨rfl,hb⟩;replace hL:=hL.call hb;clear hb)|(with_reducible (clear hL n1;intro b1 w1 hL))|((with_reducible refine goJ rfl ?_);refine goP ?_))
  go_ret
  exact ⟨ret_int HR.out.symm,hL.below⟩
 ·have HR:=Lib.hid (show R = -1 by rw [hR,if_pos (by omega)])
  clear hR hP hS HRow hB hbits
  have c0:decide (x<0)=false:=by simp;omega
  have c1:decide (W≤x)=true:=by simp;omega
  have n1:True:=trivial
  go_enter Tryz.func120,Tryz.ntmps120
  go_wp2_with (first|(go_at_call 56;(with_reducible refine (HMI.out _).mono ?_);rintro e _ ⟨rfl,hb⟩;replace hL:=hL.call hb;clear hb)|(with_reducible (clear hL n1;intro b1 w1 hL))|((with_reducible refine goJ rfl ?_);refine goP ?_))
  go_ret
  exact ⟨ret_int HR.out.symm,hL.below⟩
 ·have HR:=Lib.hid (show R = -1 by rw [hR,if_pos (by omega)])
  clear hR hP hS HRow hB hbits
  have c0:decide (x<0)=false:=by simp;omega
  have c1:decide (W≤x)=false:=by simp;omega
  have c2:decide (y<0)=true:=by simp;omega
  have n1:True:=trivial
  go_enter Tryz.func120,Tryz.ntmps120
  go_wp2_with (first|(go_at_call 56;(with_reducible refine (HMI.out _).mono ?_);rintro e _ ⟨rfl,hb⟩;replace hL:=hL.call hb;clear hb)|(with_reducible (clear hL n1;intro b1 w1 hL))|((with_reducible refine goJ rfl ?_);refine goP ?_))
  go_ret
  exact ⟨ret_int HR.out.symm,hL.below⟩
 ·have HR:=Lib.hid (show R = -1 by rw [hR,if_pos (by omega)])
  clear hR hP hS HRow hB hbits
  have c0:decide (x<0)=false:=by simp;omega
  have c1:decide (W≤x)=false:=by simp;omega
  have c2:decide (y<0)=false:=by simp;omega
  have c3:decide (H≤y)=true:=by simp;omega
  have n1:True:=trivial
  go_enter Tryz.func120,Tryz.ntmps120
  go_wp2_with (first|(go_at_call 56;(with_reducible refine (HMI.out _).mono ?_);rintro e _ ⟨rfl,hb⟩;replace hL:=hL.call hb;clear hb)|(with_reducible (clear hL n1;intro b1 w1 hL))|((with_reducible refine goJ rfl ?_);refine goP ?_))
  go_ret
  exact ⟨ret_int HR.out.symm,hL.below⟩
 have hP2:=hP ⟨g1,g2⟩ ⟨g3,g4⟩
 rw [if_neg (by omega)] at hR
 have hn0:0≤x*bits∧x*bits≤512:=by rcases hbits with e|e|e|e <;> rw [e] <;> omega
 have hy0:0≤y*ro∧y*ro≤10000:=by
  have:=Int.mul_le_mul (show y≤64 by omega) (show ro≤64 by omega) (by omega) (by omega)
  exact ⟨Int.mul_nonneg g3 (by omega),by omega⟩
 have w1:IntKind.i64.wrap (x*bits)=x*bits:=wrapS (by omega) (by omega)
 have w2:IntKind.i64.wrap (y*ro)=y*ro:=wrapS (by omega) (by omega)
 have d1:(x*bits).tdiv 8=x*bits / 8:=Int.tdiv_eq_ediv_of_nonneg (by omega)
 have d2:(x*bits).tmod 8=x*bits%8:=Int.tmod_eq_emod_of_nonneg (by omega)
 clear hP
 generalize hxn:x*bits=n at *
 generalize hyr:y*ro=yr at *
 have Hd1:=Lib.hid d1
 have Hd2:=Lib.hid d2
 clear d1 d2
 have hq:0≤n / 8∧n / 8≤64:=by omega
 have hm:0≤n%8∧n%8≤7:=by omega
 generalize hqq:n / 8=q at *
 generalize hmm:n%8=m at *
 have d1:=Hd1.out
 have d2:=Hd2.out
 clear Hd1 Hd2 hqq hmm
 have HIx:=Lib.hid (fun (w:World) (K:Value→Prop) (h:K (.int .u8 (byteI data (yr+q).toNat)))=>indexStr (P:=Tryz.prog) (w:=w) (T:=9) (s:=data) (i:=yr+q) Tryz.underlying9 hP2.1 hP2.2 h)
 have hB2:=hB (yr+q).toNat
 clear hB
 generalize byteI data (yr+q).toNat=by1 at *
 have w3:IntKind.i64.wrap by1=by1:=wrapS (by omega) (by omega)
 have w4:IntKind.i64.wrap (yr+q)=yr+q:=wrapS (by omega) (by omega)
 have w5:IntKind.i64.wrap (8-bits)=8-bits:=wrapS (by omega) (by omega)
 have w6:IntKind.i64.wrap (8-bits-m)=8-bits-m:=wrapS (by omega) (by omega)
 have w7:IntKind.i64.wrap q=q:=wrapS (by omega) (by omega)
 have w8:IntKind.i64.wrap m=m:=wrapS (by omega) (by omega)
 have w9:IntKind.u64.wrap (8-bits-m)=8-bits-m:=by rw [IntKind.wrap_u64];omega
 have w10:IntKind.u64.wrap bits=bits:=by rw [IntKind.wrap_u64];omega
 have hs0:¬8-bits-m<0:=by omega
 have hb0:¬bits<0:=by omega
 have hmi:min (8-bits-m).toNat 64=(8-bits-m).toNat:=by omega
 have hmj:min bits.toNat 64=bits.toNat:=by omega
 have hpw:IntKind.i64.wrap ((2:Int)^bits.toNat)=2^bits.toNat∧IntKind.i64.wrap ((2:Int)^bits.toNat-1)=2^bits.toNat-1:=by rcases hbits with e|e|e|e <;> subst e <;> decide
 obtain ⟨hp1,hp2⟩:=hpw
 have Hbr:=Lib.hid (show Go.bits .and .i64 (by1 / 2^(8-bits-m).toNat) (2^bits.toNat-1)=R from by
  rw [hR,←bits_run (k:=(8-bits-m).toNat) hB2.1 hB2.2 (show bits.toNat≤8 by omega),Int.fdiv_eq_ediv_of_nonneg by1 (Int.le_of_lt (Int.pow_pos (by decide)))]
  rfl)
 clear hR
 have c0:decide (x<0)=false:=by simp;omega
 have c1:decide (W≤x)=false:=by simp;omega
 have c2:decide (y<0)=false:=by simp;omega
 have c3:decide (H≤y)=false:=by simp;omega
 have n1:True:=trivial
 go_enter Tryz.func120,Tryz.ntmps120
 go_wp2_with (first|(go_at_call 56;(with_reducible refine (HMI.out _).mono ?_);rintro e _ ⟨rfl,hb⟩;replace hL:=hL.call hb;clear hb)|(with_reducible (clear hL n1;intro b1 w1 hL))|((with_reducible refine goJ rfl ?_);refine goP ?_))
 refine wpH_holds (by kernel_rfl) hL fun hS=>?_
 replace hL:=hS
 refine deH 0 hS ?_
 refine dlH 1 ?_ hS (fun w' hw=>?_) ?_;rotate_left;(· refine loadA hw ?_;rfl)
 simp only [Act.put,setP]
 refine deH 2 hS ?_
 refine dlH 3 ?_ hS (fun w' hw=>?_) ?_;rotate_left;(· (first|refine loadA hw ?_|refine loadR hw ?_);rfl)
 simp only [Act.put,setP]
 refine deH 6 hS ?_
 refine deH 7 hS ?_
 refine wpH_one (i:=4) (by kernel_rfl) (wpOf ?_)
 refine st_call rfl _ _ ?_ (HRow.out _) ?_
 (· go_simp;try with_reducible rfl)
 rintro e _ ⟨rfl,hb⟩
 replace hL:=hL.call hb
 replace hS:=hS.call hb
 clear hb
 refine ⟨_,rfl,hS,?_⟩
 simp only [Act.put,setP]
 refine deH 5 hS ?_
 refine deH 8 hS ?_
 refine stH (i:=9) ?_ hS (fun w' hw=>?_) ?_;rotate_left;(· refine run_indexOp (HIx.out _ _ ?_);rfl)
 simp only [Act.put,setP]
 refine deH 10 hS ?_
 refine deH 11 hS ?_
 refine wpAnyH_done (by kernel_rfl) ?_ _
 clear hS
 go_wp2_with (first|(with_reducible (clear hL n1;intro b1 w1 hL))|((with_reducible refine goJ rfl ?_);refine goP ?_))
 go_ret
 exact ⟨ret_int Hbr.out,hL.below⟩
open Go.RowKit
set_option maxRecDepth 100000 in
set_option maxHeartbeats 16000000 in
theorem rAtI_calls (i:Img) (hl:i.data.size≤maxLen) (hi:mayImg i=true) (m:Mtx) (hm:mayMtx m=true) (hD:detM m≠0) (x y:Int) (hx : -8191≤x∧x≤8191) (hy : -8191≤y∧y≤8191) (w:World):Calls Tryz.prog 78 #[imgV i,mtxV m,.int .i64 x,.int .i64 y] w fun e w'=>e=.returned (.int .i64 (atI i m x y))∧Below w.heap.size w w':=by
 have hR:atI i m x y=sampI i ((m.d*(x*65536-m.e)-m.c*(y*65536-m.f)).fdiv (detM m)) ((m.a*(y*65536-m.f)-m.b*(x*65536-m.e)).fdiv (detM m)):=rfl
 have HMI:=Lib.hid (fun w=>rMayImage_calls i hl w)
 have HMM:=Lib.hid (fun w=>rMatMay_calls m w)
 have HDt:=Lib.hid (fun w=>rDet_calls m hm w)
 have HCx:=Lib.hid (fun w=>refIsCoord_calls x w)
 have HCy:=Lib.hid (fun w=>refIsCoord_calls y w)
 have HSm:=Lib.hid (fun w x y=>rSample_calls i hl hi x y w)
 rw [hi] at HMI
 rw [hm] at HMM
 rw [show near1 x=true by unfold near1;simp;omega] at HCx
 rw [show near1 y=true by unfold near1;simp;omega] at HCy
 obtain ⟨f1,f2,f3,f4,f5,f6⟩:=fix_bd hm
 have hdb:=det_bd hm
 generalize detM m=D at *
 generalize atI i m x y=R at *
 obtain ⟨W,H,bits,data⟩:=i
 obtain ⟨a,b,c,d,e,f⟩:=m
 unfold imgV mtxV at *
 dsimp only at *
 clear hm hi hl
 generalize hp:x*65536-e=p at *
 generalize hq:y*65536-f=q at *
 have bp : -1610612736≤p∧p≤1610612736:=by omega
 have bq : -1610612736≤q∧q≤1610612736:=by omega
 obtain ⟨g1,g2⟩:=way_bd f4 f3 bp bq rfl
 obtain ⟨g3,g4⟩:=way_bd f1 f2 bq bp rfl
 generalize hdp:d*p=dp at *
 generalize hcq:c*q=cq at *
 generalize haq:a*q=aq at *
 generalize hbp:b*p=bp1 at *
 have HD1:=Lib.hid (fun w=>rDiv_calls (dp-cq) D hD (by omega) (by omega) w)
 have HD2:=Lib.hid (fun w=>rDiv_calls (aq-bp1) D hD (by omega) (by omega) w)
 generalize (dp-cq).fdiv D=X at *
 generalize (aq-bp1).fdiv D=Y at *
 have w1:IntKind.i64.wrap dp=dp:=wrapS (by omega) (by omega)
 have w2:IntKind.i64.wrap cq=cq:=wrapS (by omega) (by omega)
 have w3:IntKind.i64.wrap aq=aq:=wrapS (by omega) (by omega)
 have w4:IntKind.i64.wrap bp1=bp1:=wrapS (by omega) (by omega)
 have w5:IntKind.i64.wrap (dp-cq)=dp-cq:=wrapS (by omega) (by omega)
 have w6:IntKind.i64.wrap (aq-bp1)=aq-bp1:=wrapS (by omega) (by omega)
 have w7:IntKind.i64.wrap (x*65536)=x*65536:=wrapS (by omega) (by omega)
 have w8:IntKind.i64.wrap (y*65536)=y*65536:=wrapS (by omega) (by omega)
 have w9:IntKind.i64.wrap p=p:=wrapS (by omega) (by omega)
 have w10:IntKind.i64.wrap q=q:=wrapS (by omega) (by omega)
 have HS:=Lib.hid (fun w=>HSm.out w X Y)
 rw [←hR] at HS
 clear hR HSm
 have c0:(D == 0)=false:=by simp;omega
 have hL:=Holds.start w
 obtain ⟨n1,n2⟩:=tok2
 go_enter Tryz.func78,Tryz.ntmps78
 go_wp2_with (first|(go_at_call 56;(with_reducible refine (HMI.out _).mono ?_);rintro e _ ⟨rfl,hb⟩;replace hL:=hL.call hb;clear hb)|(go_at_call 57;(with_reducible refine (HMM.out _).mono ?_);rintro e _ ⟨rfl,hb⟩;replace hL:=hL.call hb;clear hb)|(go_at_call 119;(with_reducible first|refine (HCx.out _).mono ?_|refine (HCy.out _).mono ?_);rintro e _ ⟨rfl,rfl⟩)|(go_at_call 58;(with_reducible refine (HDt.out _).mono ?_);rintro e _ ⟨rfl,hb⟩;replace hL:=hL.call hb;clear hb)|(with_reducible first|(clear hL n1;intro b1 w1 hL)|(clear hL n2;intro b2 w2 hL))|((with_reducible refine goJ rfl ?_);refine goP ?_))
 refine wpH_holds (by kernel_rfl) hL fun hS=>?_
 replace hL:=hS
 refine deH 0 hS ?_
 refine deH 1 hS ?_
 refine deH 2 hS ?_
 refine dlH 3 ?_ hS (fun w' hw=>?_) ?_;rotate_left;(· (first|refine loadA hw ?_|refine loadR hw ?_);rfl)
 simp only [Act.put,setP]
 refine deH 4 hS ?_
 refine deH 5 hS ?_
 refine deH 6 hS ?_
 refine deH 7 hS ?_
 refine dlH 8 ?_ hS (fun w' hw=>?_) ?_;rotate_left;(· refine loadA hw ?_;rfl)
 simp only [Act.put,setP]
 refine deH 9 hS ?_
 refine deH 10 hS ?_
 refine deH 11 hS ?_
 refine wpAnyH_done (by kernel_rfl) ?_ _
 clear hS
 go_wp2_with (first|(with_reducible first|(clear hL n1;intro b1 w1 hL)|(clear hL n2;intro b2 w2 hL)|(clear hL;intro _ _ hL))|((with_reducible refine goJ rfl ?_);refine goP ?_))
 refine wpH_holds (by kernel_rfl) hL fun hS=>?_
 replace hL:=hS
 refine dlH 0 ?_ hS (fun w' hw=>?_) ?_;rotate_left;(· refine loadR hw ?_;rfl)
 simp only [Act.put,setP]
 refine deH 1 hS ?_
 refine dlH 2 ?_ hS (fun w' hw=>?_) ?_;rotate_left;(· refine loadA hw ?_;rfl)
 simp only [Act.put,setP]
 refine deH 3 hS ?_
 refine deH 4 hS ?_
 refine deH 5 hS ?_
 refine dlH 6 ?_ hS (fun w' hw=>?_) ?_;rotate_left;(· refine loadA hw ?_;rfl)
 simp only [Act.put,setP]
 refine deH 7 hS ?_
 refine deH 8 hS ?_
 refine deH 9 hS ?_
 refine deH 10 hS ?_
 refine deH 12 hS ?_
 refine dlH 13 ?_ hS (fun w' hw=>?_) ?_;rotate_left;(· refine loadA hw ?_;rfl)
 simp only [Act.put,setP]
 refine deH 14 hS ?_
 refine deH 15 hS ?_
 refine deH 16 hS ?_
 refine dlH 17 ?_ hS (fun w' hw=>?_) ?_;rotate_left;(· refine loadA hw ?_;rfl)
 simp only [Act.put,setP]
 refine deH 18 hS ?_
 refine deH 19 hS ?_
 refine deH 20 hS ?_
 refine deH 21 hS ?_
 refine wpH_one (i:=11) (by kernel_rfl) (wpOf ?_)
 refine st_call rfl _ _ ?_ (HD1.out _) ?_
 (· go_simp;try with_reducible rfl)
 rintro e _ ⟨rfl,rfl⟩
 refine ⟨_,rfl,hS,?_⟩
 simp only [Act.put,setP]
 refine wpH_one (i:=22) (by kernel_rfl) (wpOf ?_)
 refine st_call rfl _ _ ?_ (HD2.out _) ?_
 (· go_simp;try with_reducible rfl)
 rintro e _ ⟨rfl,rfl⟩
 refine ⟨_,rfl,hS,?_⟩
 simp only [Act.put,setP]
 refine wpH_one (i:=23) (by kernel_rfl) (wpOf ?_)
 refine st_call rfl _ _ ?_ (HS.out _) ?_
 (· go_simp;try with_reducible rfl)
 rintro e _ ⟨rfl,hb⟩
 replace hL:=hL.call hb
 replace hS:=hS.call hb
 clear hb
 refine ⟨_,rfl,hS,?_⟩
 simp only [Act.put,setP]
 refine deH 24 hS ?_
 refine wpAnyH_done (by kernel_rfl) ?_ _
 clear hS
 go_wp2
 go_ret
 exact ⟨rfl,hL.below⟩
end Go.Proofs.YtmnoeoecjfhhbaaGreat
