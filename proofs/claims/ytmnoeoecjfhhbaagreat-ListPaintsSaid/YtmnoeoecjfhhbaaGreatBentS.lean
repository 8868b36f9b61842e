/- Package bow: bent edges. -/
import Derived.Test.YtmnoeoecjfhhbaaGreatBentZ
namespace Go.Proofs.YtmnoeoecjfhhbaaGreat
open Go.RowKit
set_option maxRecDepth 100000 in
set_option maxHeartbeats 40000000 in
theorem bentS_calls (e:Edg) (y:Int) (hbt:e.bent=true) (hs:Small6 e y) (hd0:0≤bB e*bB e-bA e*bC e y) (hA:(bA e<0∧(bB e*bB e-bA e*bC e y == 0)=false)∨(0<bA e∧(bB e*bB e-bA e*bC e y == 0)=true)∨(0<bA e∧(bB e*bB e-bA e*bC e y == 0)=false)) (w:World):Calls Tryz.prog 211 #[edgeV e,.int .i64 y] w fun r w'=>r=.returned (.agg #[.int .i64 (spt1 e y).turn,.int .i64 (spt1 e y).p,.int .i64 (spt1 e y).q,.int .i64 (spt1 e y).d,.int .i64 (spt1 e y).m,.int .i64 (spt2 e y).turn,.int .i64 (spt2 e y).p,.int .i64 (spt2 e y).q,.int .i64 (spt2 e y).d,.int .i64 (spt2 e y).m])∧Below w.heap.size w w':=by
 rcases hA with ⟨hd2,hd3⟩|⟨hd2,hd3⟩|⟨hd2,hd3⟩
 all_goals
  obtain ⟨x0,y0,bt,cx,cy,x1,y1⟩:=e
  obtain ⟨a0,a1,b0,b1,c0,c1,d0,d1,e0,e1,f0,f1,g0,g1⟩:=hs
  dsimp only [bA,bB,bC] at *
  subst hbt
  have H1:=Lib.hid (show spt1 ⟨x0,y0,true,cx,cy,x1,y1⟩ y=bent1 x0 (y0-2*cy+y1) (cy-y0) (y0-y) (x0-2*cx+x1) (cx-x0) from rfl)
  have H2:=Lib.hid (show spt2 ⟨x0,y0,true,cx,cy,x1,y1⟩ y=bent2 x0 (y0-2*cy+y1) (cy-y0) (y0-y) (x0-2*cx+x1) (cx-x0) from rfl)
  generalize spt1 ⟨x0,y0,true,cx,cy,x1,y1⟩ y=t1 at *
  generalize spt2 ⟨x0,y0,true,cx,cy,x1,y1⟩ y=t2 at *
  unfold edgeV
  dsimp only
  have hL:=Holds.start w
  obtain ⟨n1,n2⟩:=tok2
  go_enter Tryz.func211,Tryz.ntmps211
  go_wp2_with (first|(with_reducible first|(clear hL n1;intro b1 w1 hL)|(clear hL n2;intro b2 w2 hL)|(clear hL;intro _ hL))|((with_reducible refine goJ rfl ?_);refine goW ?_))
  have hK:=(Holds.start w2).drew
  have r0:w2.cell? ⟨b1,0,none⟩=some (.int .i64 x0):=(hL.cell (.there .here)).trans rfl
  have r1:w2.cell? ⟨b1,1,none⟩=some (.int .i64 y0):=(hL.cell (.there .here)).trans rfl
  have r3:w2.cell? ⟨b1,3,none⟩=some (.int .i64 cx):=(hL.cell (.there .here)).trans rfl
  have r4:w2.cell? ⟨b1,4,none⟩=some (.int .i64 cy):=(hL.cell (.there .here)).trans rfl
  have r5:w2.cell? ⟨b1,5,none⟩=some (.int .i64 x1):=(hL.cell (.there .here)).trans rfl
  have r6:w2.cell? ⟨b1,6,none⟩=some (.int .i64 y1):=(hL.cell (.there .here)).trans rfl
  refine wpH_begin (by kernel_rfl) (fun w'=>Below w2.heap.size w2 w') ?_
  have q1:IntKind.i64.wrap (2*cy)=2*cy:=by rw [IntKind.wrap_i64];omega
  have q2:IntKind.i64.wrap (y0-2*cy)=y0-2*cy:=by rw [IntKind.wrap_i64];omega
  have q3:IntKind.i64.wrap (y0-2*cy+y1)=y0-2*cy+y1:=by rw [IntKind.wrap_i64];omega
  have q4:IntKind.i64.wrap (cy-y0)=cy-y0:=by rw [IntKind.wrap_i64];omega
  have q5:IntKind.i64.wrap (y0-y)=y0-y:=by rw [IntKind.wrap_i64];omega
  have q6:IntKind.i64.wrap (2*cx)=2*cx:=by rw [IntKind.wrap_i64];omega
  have q7:IntKind.i64.wrap (x0-2*cx)=x0-2*cx:=by rw [IntKind.wrap_i64];omega
  have q8:IntKind.i64.wrap (x0-2*cx+x1)=x0-2*cx+x1:=by rw [IntKind.wrap_i64];omega
  have q9:IntKind.i64.wrap (cx-x0)=cx-x0:=by rw [IntKind.wrap_i64];omega
  refine dsH 0 (.pointer (some ⟨b1,1,none⟩)) hK.below ?_
  refine drH 1 (.int .i64 y0) hK.below ?_ ?_;(· exact fun w' hw=>(load_cell (cell_later hw r1)))
  refine dsH 2 (.pointer (some ⟨b1,4,none⟩)) hK.below ?_
  refine drH 3 (.int .i64 cy) hK.below ?_ ?_;(· exact fun w' hw=>(load_cell (cell_later hw r4)))
  refine dsH 4 (.int .i64 (2*cy)) hK.below ?_
  refine dsH 5 (.int .i64 (y0-2*cy)) hK.below ?_
  refine dsH 6 (.pointer (some ⟨b1,6,none⟩)) hK.below ?_
  refine drH 7 (.int .i64 y1) hK.below ?_ ?_;(· exact fun w' hw=>(load_cell (cell_later hw r6)))
  refine dsH 8 (.int .i64 (y0-2*cy+y1)) hK.below ?_
  as_aux_lemma =>
   refine dsH 9 (.pointer (some ⟨b1,4,none⟩)) hK.below ?_
   refine drH 10 (.int .i64 cy) hK.below ?_ ?_;(· exact fun w' hw=>(load_cell (cell_later hw r4)))
   refine dsH 11 (.pointer (some ⟨b1,1,none⟩)) hK.below ?_
   refine drH 12 (.int .i64 y0) hK.below ?_ ?_;(· exact fun w' hw=>(load_cell (cell_later hw r1)))
   refine dsH 13 (.int .i64 (cy-y0)) hK.below ?_
   refine dsH 14 (.pointer (some ⟨b1,1,none⟩)) hK.below ?_
   refine drH 15 (.int .i64 y0) hK.below ?_ ?_;(· exact fun w' hw=>(load_cell (cell_later hw r1)))
   refine dsH 16 (.int .i64 y) hK.below ?_
   refine dsH 17 (.int .i64 (y0-y)) hK.below ?_
   refine dsH 18 (.int .i64 (y0-2*cy+y1)) hK.below ?_
   refine dsH 19 (.int .i64 (cy-y0)) hK.below ?_
   refine dsH 20 (.int .i64 (y0-y)) hK.below ?_
   refine wpAnyH_done (by kernel_rfl) ?_ _
   go_wp2
   as_aux_lemma =>
    replace hL:=hL.drew
    clear hK r0 r1 r3 r4 r5 r6
    generalize w2.drew=wk at *
    have r0:wk.cell? ⟨b1,0,none⟩=some (.int .i64 x0):=(hL.cell (.there .here)).trans rfl
    have r3:wk.cell? ⟨b1,3,none⟩=some (.int .i64 cx):=(hL.cell (.there .here)).trans rfl
    have r5:wk.cell? ⟨b1,5,none⟩=some (.int .i64 x1):=(hL.cell (.there .here)).trans rfl
    have hK:=(Holds.start wk).drew
    refine wpH_begin (by kernel_rfl) (fun w'=>Below wk.heap.size wk w') ?_
    refine dsH 0 (.pointer (some ⟨b1,0,none⟩)) hK.below ?_
    refine drH 1 (.int .i64 x0) hK.below ?_ ?_;(· exact fun w' hw=>(load_cell (cell_later hw r0)))
    refine dsH 2 (.pointer (some ⟨b1,3,none⟩)) hK.below ?_
    refine drH 3 (.int .i64 cx) hK.below ?_ ?_;(· exact fun w' hw=>(load_cell (cell_later hw r3)))
    refine dsH 4 (.int .i64 (2*cx)) hK.below ?_
    refine dsH 5 (.int .i64 (x0-2*cx)) hK.below ?_
    refine dsH 6 (.pointer (some ⟨b1,5,none⟩)) hK.below ?_
    refine drH 7 (.int .i64 x1) hK.below ?_ ?_;(· exact fun w' hw=>(load_cell (cell_later hw r5)))
    refine dsH 8 (.int .i64 (x0-2*cx+x1)) hK.below ?_
    as_aux_lemma =>
     refine dsH 9 (.pointer (some ⟨b1,3,none⟩)) hK.below ?_
     refine drH 10 (.int .i64 cx) hK.below ?_ ?_;(· exact fun w' hw=>(load_cell (cell_later hw r3)))
     refine dsH 11 (.pointer (some ⟨b1,0,none⟩)) hK.below ?_
     refine drH 12 (.int .i64 x0) hK.below ?_ ?_;(· exact fun w' hw=>(load_cell (cell_later hw r0)))
     refine dsH 13 (.int .i64 (cx-x0)) hK.below ?_
     refine dsH 14 (.int .i64 (x0-2*cx+x1)) hK.below ?_
     refine dsH 15 (.int .i64 (cx-x0)) hK.below ?_
     refine wpAnyH_done (by kernel_rfl) ?_ _
     replace hL:=hL.drew
     clear hK r0 r3 r5 q1 q2 q3 q4 q5 q6 q7 q8 q9
     have ha : -32764≤y0-2*cy+y1∧y0-2*cy+y1≤32764:=by omega
     have hb : -16382≤cy-y0∧cy-y0≤16382:=by omega
     have hc : -16382≤y0-y∧y0-y≤16382:=by omega
     have hax : -32764≤x0-2*cx+x1∧x0-2*cx+x1≤32764:=by omega
     have hbx : -16382≤cx-x0∧cx-x0≤16382:=by omega
     generalize y0-2*cy+y1=a at *
     generalize cy-y0=b at *
     generalize y0-y=c at *
     generalize x0-2*cx+x1=ax at *
     generalize cx-x0=bx at *
     obtain ⟨ha1,ha2⟩:=ha
     obtain ⟨hb1,hb2⟩:=hb
     obtain ⟨hc1,hc2⟩:=hc
     obtain ⟨hax1,hax2⟩:=hax
     obtain ⟨hbx1,hbx2⟩:=hbx
     have h0:a≠0:=by omega
     have d1:(a == 0)=false:=by simp [h0]
     have hnb:¬(b*b-a*c<0∨(b*b-a*c=0∧a<0)):=by
      have:=hd3
      first|simp only [beq_eq_false_iff_ne,ne_eq] at this|simp only [beq_iff_eq] at this
      omega
     have e1:t1=oneS 1 x0 a b (b*b-a*c) ax bx:=by rw [H1.out,bent1,if_neg h0,if_neg hnb]
     have e2:t2=oneS (-1) x0 a b (b*b-a*c) ax bx:=by rw [H2.out,bent2,if_neg h0,if_neg hnb]
     clear hnb
     obtain ⟨k1,k2⟩:=mul_bd (a:=b) (b:=b) (A:=16382) (B:=16382) (by omega) (by omega) (by omega) (by omega)
     obtain ⟨k3,k4⟩:=mul_bd (a:=a) (b:=c) (A:=32764) (B:=16382) (by omega) (by omega) (by omega) (by omega)
     have hd1:b*b-a*c≤805109772:=by omega
     obtain ⟨m1,m2⟩:=mul_bd (a:=x0) (b:=a) (A:=8191) (B:=32764) (by omega) (by omega) (by omega) (by omega)
     obtain ⟨m3,m4⟩:=mul_bd (a:=x0*a) (b:=a) (A:=268369924) (B:=32764) (by omega) (by omega) (by omega) (by omega)
     obtain ⟨m5,m6⟩:=mul_bd (a:=2*a) (b:=b) (A:=65528) (B:=16382) (by omega) (by omega) (by omega) (by omega)
     obtain ⟨m7,m8⟩:=mul_bd (a:=2*a*b) (b:=bx) (A:=1073479696) (B:=16382) (by omega) (by omega) (by omega) (by omega)
     obtain ⟨m9,m10⟩:=mul_bd (a:=ax) (b:=b*b+(b*b-a*c)) (A:=32764) (B:=1073479696) (by omega) (by omega) (by omega) (by omega)
     obtain ⟨m11,m12⟩:=mul_bd (a:=2*a) (b:=bx) (A:=65528) (B:=16382) (by omega) (by omega) (by omega) (by omega)
     obtain ⟨m13,m14⟩:=mul_bd (a:=2*b) (b:=ax) (A:=32764) (B:=32764) (by omega) (by omega) (by omega) (by omega)
     obtain ⟨m15,m16⟩:=mul_bd (a:=a) (b:=a) (A:=32764) (B:=32764) (by omega) (by omega) (by omega) (by omega)
     have HF1:=Lib.hid (fun w=>bowSign_calls (-b) 1 (b*b-a*c) ⟨by omega,by omega,by omega,by omega,by omega,by omega⟩ w)
     have HG1:=Lib.hid (fun w=>bowSign_calls (-b-a) 1 (b*b-a*c) ⟨by omega,by omega,by omega,by omega,by omega,by omega⟩ w)
     have HF2:=Lib.hid (fun w=>bowSign_calls (-b) (-1) (b*b-a*c) ⟨by omega,by omega,by omega,by omega,by omega,by omega⟩ w)
     have HG2:=Lib.hid (fun w=>bowSign_calls (-b-a) (-1) (b*b-a*c) ⟨by omega,by omega,by omega,by omega,by omega,by omega⟩ w)
     have N1:=Lib.hid (sgR_bd (p := -b) (q:=1) (d:=b*b-a*c))
     have N2:=Lib.hid (sgR_bd (p := -b-a) (q:=1) (d:=b*b-a*c))
     have N3:=Lib.hid (sgR_bd (p := -b) (q := -1) (d:=b*b-a*c))
     have N4:=Lib.hid (sgR_bd (p := -b-a) (q := -1) (d:=b*b-a*c))
     first|rw [oneS_neg hd2] at e1 e2|rw [oneS_pos hd2] at e1 e2
     generalize sgR (-b) 1 (b*b-a*c)=f1v at *
     generalize sgR (-b-a) 1 (b*b-a*c)=g1v at *
     generalize sgR (-b) (-1) (b*b-a*c)=f2v at *
     generalize sgR (-b-a) (-1) (b*b-a*c)=g2v at *
     have E1:=Lib.hid e1
     have E2:=Lib.hid e2
     clear e1 e2 H1 H2
     go_wp2_with (first|(with_reducible first|(clear hL n1;intro b1 w1 hL)|(clear hL n2;intro b2 w2 hL)|(clear hL;intro _ hL))|((with_reducible refine goJ rfl ?_);refine goW ?_))
     go_loopw [80] (fun s80 wr=>∃ k:Nat,k≤2∧s80=.int .i64 k∧Holds w wr [blk b2 (if k=0 then #[.int .i64 0,.int .i64 0,.int .i64 0,.int .i64 0,.int .i64 0,.int .i64 0,.int .i64 0,.int .i64 0,.int .i64 0,.int .i64 0] else if k=1 then #[.int .i64 t1.turn,.int .i64 t1.p,.int .i64 t1.q,.int .i64 t1.d,.int .i64 t1.m,.int .i64 0,.int .i64 0,.int .i64 0,.int .i64 0,.int .i64 0] else #[.int .i64 t1.turn,.int .i64 t1.p,.int .i64 t1.q,.int .i64 t1.d,.int .i64 t1.m,.int .i64 t2.turn,.int .i64 t2.p,.int .i64 t2.q,.int .i64 t2.d,.int .i64 t2.m]) 254,blk b1 #[.int .i64 x0,.int .i64 y0,.bool true,.int .i64 cx,.int .i64 cy,.int .i64 x1,.int .i64 y1] 177] [])
      (fun s80 wr=>2-(intOf s80).toNat)
     case atStart=>exact ⟨0,by omega,rfl,hL⟩
     case round =>
      clear hL
      obtain ⟨k,hk,rfl,hL⟩:=hrel
      rcases (by omega:k=0∨k=1∨k=2) with rfl|rfl|rfl
      ·simp only [if_true] at hL
       obtain ⟨n1,n2⟩:=N1.out
       obtain ⟨n3,n4⟩:=N2.out
       go_wp2_with (first|(go_at_call 219;(first|((with_reducible refine (HF1.out _).mono ?_);rintro e _ ⟨rfl,hb⟩)|((with_reducible refine (HG1.out _).mono ?_);rintro e _ ⟨rfl,hb⟩));replace hL:=hL.call hb;clear hb)|((with_reducible refine wpA_store rfl _ _ _ rfl _ rfl (.agg _) rfl ?_);refine storeP hL ?_;clear hL;intro _ hL)|((with_reducible refine goJ rfl ?_);refine goW ?_))
       all_goals
        go_roundw
        case rel =>
         refine ⟨1,by omega,rfl,?_⟩
         rw [if_neg (by omega),if_pos rfl]
         have e1:=E1.out
         first|rw [if_pos (by omega)] at e1|rw [if_neg (by omega)] at e1
         rw [e1]
         first|exact hL|(dsimp only;rw [oneQ_1];exact hL)
        case measure=>simp [intOf]
      ·rw [if_neg (by omega),if_pos rfl] at hL
       obtain ⟨n1,n2⟩:=N3.out
       obtain ⟨n3,n4⟩:=N4.out
       go_wp2_with (first|(go_at_call 219;(first|((with_reducible refine (HF2.out _).mono ?_);rintro e _ ⟨rfl,hb⟩)|((with_reducible refine (HG2.out _).mono ?_);rintro e _ ⟨rfl,hb⟩));replace hL:=hL.call hb;clear hb)|((with_reducible refine wpA_store rfl _ _ _ rfl _ rfl (.agg _) rfl ?_);refine storeP hL ?_;clear hL;intro _ hL)|((with_reducible refine goJ rfl ?_);refine goW ?_))
       all_goals
        go_roundw
        case rel =>
         refine ⟨2,by omega,rfl,?_⟩
         rw [if_neg (by omega),if_neg (by omega)]
         have e2:=E2.out
         first|rw [if_pos (by omega)] at e2|rw [if_neg (by omega)] at e2
         rw [e2]
         first|exact hL|(dsimp only;rw [oneQ_2];exact hL)|(dsimp only;rw [oneQ_4];exact hL)
        case measure=>simp [intOf]
      ·rw [if_neg (by omega),if_neg (by omega)] at hL
       go_wp2_with (first|(with_reducible first|(clear hL n1;intro b1 w1 hL)|(clear hL n2;intro b2 w2 hL)|(clear hL;intro _ hL))|((with_reducible refine goJ rfl ?_);refine goW ?_))
       exact bodyPost_ret (results_row inferInstance rfl _ hL b2 rfl _ _ .here rfl) rfl ⟨rfl,hL.below⟩
theorem bentA_calls (e:Edg) (y:Int) (hbt:e.bent=true) (hs:Small6 e y) (hd0:0≤bB e*bB e-bA e*bC e y) (hd2:bA e<0) (hd3:(bB e*bB e-bA e*bC e y == 0)=false) (w:World):Calls Tryz.prog 211 #[edgeV e,.int .i64 y] w fun r w'=>r=.returned (.agg #[.int .i64 (spt1 e y).turn,.int .i64 (spt1 e y).p,.int .i64 (spt1 e y).q,.int .i64 (spt1 e y).d,.int .i64 (spt1 e y).m,.int .i64 (spt2 e y).turn,.int .i64 (spt2 e y).p,.int .i64 (spt2 e y).q,.int .i64 (spt2 e y).d,.int .i64 (spt2 e y).m])∧Below w.heap.size w w':=bentS_calls e y hbt hs hd0 (.inl ⟨hd2,hd3⟩) w
theorem bentB_calls (e:Edg) (y:Int) (hbt:e.bent=true) (hs:Small6 e y) (hd0:0≤bB e*bB e-bA e*bC e y) (hd2:0<bA e) (hd3:(bB e*bB e-bA e*bC e y == 0)=true) (w:World):Calls Tryz.prog 211 #[edgeV e,.int .i64 y] w fun r w'=>r=.returned (.agg #[.int .i64 (spt1 e y).turn,.int .i64 (spt1 e y).p,.int .i64 (spt1 e y).q,.int .i64 (spt1 e y).d,.int .i64 (spt1 e y).m,.int .i64 (spt2 e y).turn,.int .i64 (spt2 e y).p,.int .i64 (spt2 e y).q,.int .i64 (spt2 e y).d,.int .i64 (spt2 e y).m])∧Below w.heap.size w w':=bentS_calls e y hbt hs hd0 (.inr (.inl ⟨hd2,hd3⟩)) w
theorem bentC_calls (e:Edg) (y:Int) (hbt:e.bent=true) (hs:Small6 e y) (hd0:0≤bB e*bB e-bA e*bC e y) (hd2:0<bA e) (hd3:(bB e*bB e-bA e*bC e y == 0)=false) (w:World):Calls Tryz.prog 211 #[edgeV e,.int .i64 y] w fun r w'=>r=.returned (.agg #[.int .i64 (spt1 e y).turn,.int .i64 (spt1 e y).p,.int .i64 (spt1 e y).q,.int .i64 (spt1 e y).d,.int .i64 (spt1 e y).m,.int .i64 (spt2 e y).turn,.int .i64 (spt2 e y).p,.int .i64 (spt2 e y).q,.int .i64 (spt2 e y).d,.int .i64 (spt2 e y).m])∧Below w.heap.size w w':=bentS_calls e y hbt hs hd0 (.inr (.inr ⟨hd2,hd3⟩)) w
end Go.Proofs.YtmnoeoecjfhhbaaGreat
