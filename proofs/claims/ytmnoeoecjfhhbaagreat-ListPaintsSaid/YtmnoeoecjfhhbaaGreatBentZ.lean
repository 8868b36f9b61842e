/- Package bow: bent edges. -/
import Derived.Test.YtmnoeoecjfhhbaaGreatSgnM
namespace Go.Proofs.YtmnoeoecjfhhbaaGreat
open Go.RowKit
theorem sgR_bd {p q d:Int} : -1≤sgR p q d∧sgR p q d≤1:=by
 rw [sgR_eq]
 have h1:=sgn_bd p
 have h2:=mul1_bd (sgn_bd q) (sgn_bd d)
 have h3:=mul1_bd (sgn_bd p) (cmpI_bd (p*p) (q*q*d))
 (repeat' split) <;> omega
structure BOk (x0 a b d ax bx:Int):Prop where
 b0 : -16382≤b
 b1:b≤16382
 a0 : -32764≤a
 a1:a≤32764
 ax0 : -32764≤ax
 ax1:ax≤32764
 bx0 : -16382≤bx
 bx1:bx≤16382
 f0 : -8191≤x0
 f1:x0≤8191
 d0:0≤d
 d1:d≤805109772
theorem oneS_neg {a:Int} (h:a<0) (s x0 b d ax bx:Int):oneS s x0 a b d ax bx=if (0<s∧(-sgR (-b) s d<0∨0 ≤ -sgR (-b-a) s d))∨(s<0∧(-sgR (-b) s d≤0∨0 < -sgR (-b-a) s d)) then noSpt else ⟨s,oneP x0 a b d ax bx,oneQ s a b ax bx,d,a*a⟩:=by
 unfold oneS sideI
 rw [if_pos h,Int.neg_one_mul,Int.neg_one_mul]
theorem oneS_pos {a:Int} (h:0<a) (s x0 b d ax bx:Int):oneS s x0 a b d ax bx=if (0<s∧(sgR (-b) s d<0∨0≤sgR (-b-a) s d))∨(s<0∧(sgR (-b) s d≤0∨0<sgR (-b-a) s d)) then noSpt else ⟨s,oneP x0 a b d ax bx,oneQ s a b ax bx,d,a*a⟩:=by
 have hs:(if a<0 then (-1:Int) else 1)=1:=if_neg (by omega)
 unfold oneS sideI
 rw [hs,Int.one_mul,Int.one_mul]
theorem oneQ_1 (a b ax bx:Int):oneQ 1 a b ax bx=2*a*bx-2*b*ax:=by unfold oneQ;rw [Int.one_mul]
theorem oneQ_2 (a b ax bx:Int):oneQ (-1) a b ax bx = -(2*a*bx-2*b*ax):=by unfold oneQ;rw [Int.neg_one_mul]
theorem oneQ_4 (a b ax bx:Int):oneQ (-1) a b ax bx=2*b*ax-2*a*bx:=by rw [oneQ_2];omega
set_option maxRecDepth 100000 in
set_option maxHeartbeats 8000000 in
theorem bentZ_calls (e:Edg) (y:Int) (hbt:e.bent=true) (hs:Small6 e y) (hz:bA e=0∨bB e*bB e-bA e*bC e y<0∨(bB e*bB e-bA e*bC e y=0∧bA e<0)) (w:World):Calls Tryz.prog 211 #[edgeV e,.int .i64 y] w fun r w'=>r=.returned (.agg #[.int .i64 (spt1 e y).turn,.int .i64 (spt1 e y).p,.int .i64 (spt1 e y).q,.int .i64 (spt1 e y).d,.int .i64 (spt1 e y).m,.int .i64 (spt2 e y).turn,.int .i64 (spt2 e y).p,.int .i64 (spt2 e y).q,.int .i64 (spt2 e y).d,.int .i64 (spt2 e y).m])∧Below w.heap.size w w':=by
 obtain ⟨x0,y0,bt,cx,cy,x1,y1⟩:=e
 obtain ⟨a0,a1,b0,b1,c0,c1,d0,d1,e0,e1,f0,f1,g0,g1⟩:=hs
 dsimp only [bA,bB,bC] at *
 subst hbt
 have H1:=Lib.hid (show spt1 ⟨x0,y0,true,cx,cy,x1,y1⟩ y=bent1 x0 (y0-2*cy+y1) (cy-y0) (y0-y) (x0-2*cx+x1) (cx-x0) from rfl)
 have H2:=Lib.hid (show spt2 ⟨x0,y0,true,cx,cy,x1,y1⟩ y=bent2 x0 (y0-2*cy+y1) (cy-y0) (y0-y) (x0-2*cx+x1) (cx-x0) from rfl)
 generalize spt1 ⟨x0,y0,true,cx,cy,x1,y1⟩ y=t1 at *
 generalize spt2 ⟨x0,y0,true,cx,cy,x1,y1⟩ y=t2 at *
 unfold edgeV
 dsimp only
 have hL:=Holds.start w
 obtain ⟨n1,n2⟩:=tok2
 go_enter Tryz.func211,Tryz.ntmps211
 go_wp2_with (first|(with_reducible first|(clear hL n1;intro b1 w1 hL)|(clear hL n2;intro b2 w2 hL)|(clear hL;intro _ hL))|((with_reducible refine goJ rfl ?_);refine goW ?_))
 have hK:=(Holds.start w2).drew
 have r0:w2.cell? ⟨b1,0,none⟩=some (.int .i64 x0):=(hL.cell (.there .here)).trans rfl
 have r1:w2.cell? ⟨b1,1,none⟩=some (.int .i64 y0):=(hL.cell (.there .here)).trans rfl
 have r3:w2.cell? ⟨b1,3,none⟩=some (.int .i64 cx):=(hL.cell (.there .here)).trans rfl
 have r4:w2.cell? ⟨b1,4,none⟩=some (.int .i64 cy):=(hL.cell (.there .here)).trans rfl
 have r5:w2.cell? ⟨b1,5,none⟩=some (.int .i64 x1):=(hL.cell (.there .here)).trans rfl
 have r6:w2.cell? ⟨b1,6,none⟩=some (.int .i64 y1):=(hL.cell (.there .here)).trans rfl
 refine wpH_begin (by kernel_rfl) (fun w'=>Below w2.heap.size w2 w') ?_
 have q1:IntKind.i64.wrap (2*cy)=2*cy:=by rw [IntKind.wrap_i64];omega
 have q2:IntKind.i64.wrap (y0-2*cy)=y0-2*cy:=by rw [IntKind.wrap_i64];omega
 have q3:IntKind.i64.wrap (y0-2*cy+y1)=y0-2*cy+y1:=by rw [IntKind.wrap_i64];omega
 have q4:IntKind.i64.wrap (cy-y0)=cy-y0:=by rw [IntKind.wrap_i64];omega
 have q5:IntKind.i64.wrap (y0-y)=y0-y:=by rw [IntKind.wrap_i64];omega
 have q6:IntKind.i64.wrap (2*cx)=2*cx:=by rw [IntKind.wrap_i64];omega
 have q7:IntKind.i64.wrap (x0-2*cx)=x0-2*cx:=by rw [IntKind.wrap_i64];omega
 have q8:IntKind.i64.wrap (x0-2*cx+x1)=x0-2*cx+x1:=by rw [IntKind.wrap_i64];omega
 have q9:IntKind.i64.wrap (cx-x0)=cx-x0:=by rw [IntKind.wrap_i64];omega
 refine dsH 0 (.pointer (some ⟨b1,1,none⟩)) hK.below ?_
 refine drH 1 (.int .i64 y0) hK.below ?_ ?_;(· exact fun w' hw=>(load_cell (cell_later hw r1)))
 refine dsH 2 (.pointer (some ⟨b1,4,none⟩)) hK.below ?_
 refine drH 3 (.int .i64 cy) hK.below ?_ ?_;(· exact fun w' hw=>(load_cell (cell_later hw r4)))
 refine dsH 4 (.int .i64 (2*cy)) hK.below ?_
 refine dsH 5 (.int .i64 (y0-2*cy)) hK.below ?_
 refine dsH 6 (.pointer (some ⟨b1,6,none⟩)) hK.below ?_
 refine drH 7 (.int .i64 y1) hK.below ?_ ?_;(· exact fun w' hw=>(load_cell (cell_later hw r6)))
 refine dsH 8 (.int .i64 (y0-2*cy+y1)) hK.below ?_
 as_aux_lemma =>
  refine dsH 9 (.pointer (some ⟨b1,4,none⟩)) hK.below ?_
  refine drH 10 (.int .i64 cy) hK.below ?_ ?_;(· exact fun w' hw=>(load_cell (cell_later hw r4)))
  refine dsH 11 (.pointer (some ⟨b1,1,none⟩)) hK.below ?_
  refine drH 12 (.int .i64 y0) hK.below ?_ ?_;(· exact fun w' hw=>(load_cell (cell_later hw r1)))
  refine dsH 13 (.int .i64 (cy-y0)) hK.below ?_
  refine dsH 14 (.pointer (some ⟨b1,1,none⟩)) hK.below ?_
  refine drH 15 (.int .i64 y0) hK.below ?_ ?_;(· exact fun w' hw=>(load_cell (cell_later hw r1)))
  refine dsH 16 (.int .i64 y) hK.below ?_
  refine dsH 17 (.int .i64 (y0-y)) hK.below ?_
  refine dsH 18 (.int .i64 (y0-2*cy+y1)) hK.below ?_
  refine dsH 19 (.int .i64 (cy-y0)) hK.below ?_
  refine dsH 20 (.int .i64 (y0-y)) hK.below ?_
  refine wpAnyH_done (by kernel_rfl) ?_ _
  go_wp2
  as_aux_lemma =>
   replace hL:=hL.drew
   clear hK r0 r1 r3 r4 r5 r6
   generalize w2.drew=wk at *
   have r0:wk.cell? ⟨b1,0,none⟩=some (.int .i64 x0):=(hL.cell (.there .here)).trans rfl
   have r3:wk.cell? ⟨b1,3,none⟩=some (.int .i64 cx):=(hL.cell (.there .here)).trans rfl
   have r5:wk.cell? ⟨b1,5,none⟩=some (.int .i64 x1):=(hL.cell (.there .here)).trans rfl
   have hK:=(Holds.start wk).drew
   refine wpH_begin (by kernel_rfl) (fun w'=>Below wk.heap.size wk w') ?_
   refine dsH 0 (.pointer (some ⟨b1,0,none⟩)) hK.below ?_
   refine drH 1 (.int .i64 x0) hK.below ?_ ?_;(· exact fun w' hw=>(load_cell (cell_later hw r0)))
   refine dsH 2 (.pointer (some ⟨b1,3,none⟩)) hK.below ?_
   refine drH 3 (.int .i64 cx) hK.below ?_ ?_;(· exact fun w' hw=>(load_cell (cell_later hw r3)))
   refine dsH 4 (.int .i64 (2*cx)) hK.below ?_
   refine dsH 5 (.int .i64 (x0-2*cx)) hK.below ?_
   refine dsH 6 (.pointer (some ⟨b1,5,none⟩)) hK.below ?_
   refine drH 7 (.int .i64 x1) hK.below ?_ ?_;(· exact fun w' hw=>(load_cell (cell_later hw r5)))
   refine dsH 8 (.int .i64 (x0-2*cx+x1)) hK.below ?_
   as_aux_lemma =>
    refine dsH 9 (.pointer (some ⟨b1,3,none⟩)) hK.below ?_
    refine drH 10 (.int .i64 cx) hK.below ?_ ?_;(· exact fun w' hw=>(load_cell (cell_later hw r3)))
    refine dsH 11 (.pointer (some ⟨b1,0,none⟩)) hK.below ?_
    refine drH 12 (.int .i64 x0) hK.below ?_ ?_;(· exact fun w' hw=>(load_cell (cell_later hw r0)))
    refine dsH 13 (.int .i64 (cx-x0)) hK.below ?_
    refine dsH 14 (.int .i64 (x0-2*cx+x1)) hK.below ?_
    refine dsH 15 (.int .i64 (cx-x0)) hK.below ?_
    refine wpAnyH_done (by kernel_rfl) ?_ _
    replace hL:=hL.drew
    clear hK r0 r3 r5 q1 q2 q3 q4 q5 q6 q7 q8 q9
    have ha : -32764≤y0-2*cy+y1∧y0-2*cy+y1≤32764:=by omega
    have hb : -16382≤cy-y0∧cy-y0≤16382:=by omega
    have hc : -16382≤y0-y∧y0-y≤16382:=by omega
    have hax : -32764≤x0-2*cx+x1∧x0-2*cx+x1≤32764:=by omega
    have hbx : -16382≤cx-x0∧cx-x0≤16382:=by omega
    generalize y0-2*cy+y1=a at *
    generalize cy-y0=b at *
    generalize y0-y=c at *
    generalize x0-2*cx+x1=ax at *
    generalize cx-x0=bx at *
    obtain ⟨ha1,ha2⟩:=ha
    obtain ⟨hb1,hb2⟩:=hb
    obtain ⟨hc1,hc2⟩:=hc
    obtain ⟨hax1,hax2⟩:=hax
    obtain ⟨hbx1,hbx2⟩:=hbx
    rcases (by omega:a=0∨a≠0) with h0|h0
    ·subst h0
     have he:=fun w=>even_calls b c ax bx x0 ⟨hb1,hb2,hc1,hc2,hax1,hax2,hbx1,hbx2,a0,a1⟩ w
     have e1:t1=evenS b c ax bx x0:=by rw [H1.out,bent1,if_pos rfl]
     rw [←e1] at he
     have HE:=Lib.hid he
     clear he e1
     have e2:t2=noSpt:=by rw [H2.out,bent2,if_pos rfl]
     subst e2
     go_wp2_with (first|(go_at_call 218;(with_reducible refine (HE.out _).mono ?_);rintro e _ ⟨rfl,hb⟩;replace hL:=hL.call hb;clear hb)|((with_reducible refine wpA_store rfl _ _ _ rfl _ rfl (.agg _) rfl ?_);refine storeP hL ?_;clear hL;intro _ hL)|((with_reducible refine goJ rfl ?_);refine goW ?_))
     exact bodyPost_ret (results_row inferInstance rfl _ hL b2 rfl _ _ .here rfl) rfl ⟨rfl,hL.below⟩
    ·have d1:(a == 0)=false:=by simp [h0]
     obtain ⟨k1,k2⟩:=mul_bd (a:=b) (b:=b) (A:=16382) (B:=16382) (by omega) (by omega) (by omega) (by omega)
     obtain ⟨k3,k4⟩:=mul_bd (a:=a) (b:=c) (A:=32764) (B:=16382) (by omega) (by omega) (by omega) (by omega)
     rcases hz with hz|h1|⟨h1,h2⟩
     ·exact absurd hz h0
     ·have e1:t1=noSpt:=by rw [H1.out,bent1,if_neg h0,if_pos (.inl h1)]
      have e2:t2=noSpt:=by rw [H2.out,bent2,if_neg h0,if_pos (.inl h1)]
      subst e1
      subst e2
      go_wp2_with (first|(with_reducible first|(clear hL n1;intro b1 w1 hL)|(clear hL n2;intro b2 w2 hL)|(clear hL;intro _ hL))|((with_reducible refine goJ rfl ?_);refine goW ?_))
      exact bodyPost_ret (results_row inferInstance rfl _ hL b2 rfl _ _ .here rfl) rfl ⟨rfl,hL.below⟩
     ·have e1:t1=noSpt:=by rw [H1.out,bent1,if_neg h0,if_pos (.inr ⟨h1,h2⟩)]
      have e2:t2=noSpt:=by rw [H2.out,bent2,if_neg h0,if_pos (.inr ⟨h1,h2⟩)]
      subst e1
      subst e2
      have d2:(b*b-a*c == 0)=true:=by simp [h1]
      have H1':=Lib.hid h1;clear h1
      have h1:0≤b*b-a*c:=by have:=H1'.out;omega
      go_wp2_with (first|(with_reducible first|(clear hL n1;intro b1 w1 hL)|(clear hL n2;intro b2 w2 hL)|(clear hL;intro _ hL))|((with_reducible refine goJ rfl ?_);refine goW ?_))
      exact bodyPost_ret (results_row inferInstance rfl _ hL b2 rfl _ _ .here rfl) rfl ⟨rfl,hL.below⟩
end Go.Proofs.YtmnoeoecjfhhbaaGreat
