/- The document's Fair and Mask. -/
import Derived.Test.YtmnoeoecjfhhbaaGreatRf1
import Derived.Test.YtmnoeoecjfhhbaaGreatMskM
namespace Go.Proofs.YtmnoeoecjfhhbaaGreat
open Go.RowKit
def sptC (s:Spt):List Value:=[.int .i64 s.turn,.int .i64 s.p,.int .i64 s.q,.int .i64 s.d,.int .i64 s.m]
def hitL (s:Spt):List Spt:=if s.turn=0 then [] else [s]
def HitsOut (l:List Spt) (w:World):Ending→World→Prop:=SliceOut 5 (l.map sptC) w
theorem row_one {w:World} {b:Nat} {T:TypeId} {cs:Array Value} {c:List Value} (h:w.heap[b]?=some (.cells cs T (0,0))) (hc:cs.toList=c):SliceAt w 5 (.slice (some ⟨b,0,none⟩) 1 1) [c]:=by
 refine ⟨some ⟨b,0,none⟩,1,rfl,by simp,by unfold maxLen;omega,fun i hi=>⟨b,0,rfl,fun j v hj=>?_⟩⟩
 simp only [List.length_cons,List.length_nil] at hi
 obtain rfl:i=0:=by omega
 rw [Nat.zero_mul,Nat.add_zero,Nat.zero_add,cell_of_row w b j cs T (0,0) h,←Array.getElem?_toList,hc]
 exact hj
theorem hits_none {w0 w:World} {M:List Res} (hL:Holds w0 w M []):HitsOut [] w0 (.returned (.slice none 0 0)) w :=
 ⟨_,rfl,hL.below,(hL.triv (χ:=fun w=>SliceAt w 5 (.slice none 0 0) []) fun w=>⟨none,0,rfl,Nat.le_refl _,by unfold maxLen;omega,fun i hi=>by simp at hi⟩).fresh⟩
theorem hits_one {w0 w:World} {M:List Res} {b:Nat} {T:TypeId} {cs:Array Value} {s:Spt} (hL:Holds w0 w (blk b cs T::M) []) (hc:cs.toList=sptC s):HitsOut [s] w0 (.returned (.slice (some ⟨b,0,none⟩) 1 1)) w :=
 ⟨_,rfl,hL.below,(hL.settle .here (φ:=fun w=>SliceAt w 5 (.slice (some ⟨b,0,none⟩) 1 1) ([s].map sptC)) fun _ h=>row_one h hc).fresh⟩
set_option maxRecDepth 100000 in
set_option maxHeartbeats 1000000 in
theorem rStraight_calls (e:Edg) (y:Int) (hs:Small e y) (w:World):Calls Tryz.prog 151 #[edgeV e,.int .i64 y] w (HitsOut (hitL ⟨spT e y,spP e y,0,0,spM e y⟩) w):=by
 obtain ⟨x0,y0,bt,cx,cy,x1,y1⟩:=e
 obtain ⟨a0,a1,b0,b1,c0,c1,d0,d1,f0,f1⟩:=hs
 unfold edgeV spT spP spM
 dsimp only at *
 have hL:=Holds.start w
 obtain ⟨p1,p2⟩:=mul_bd (a:=x0) (b:=y1-y0) (A:=8191) (B:=16382) (by omega) (by omega) (by omega) (by omega)
 obtain ⟨p3,p4⟩:=mul_bd (a:=x1-x0) (b:=y-y0) (A:=16382) (B:=16382) (by omega) (by omega) (by omega) (by omega)
 rcases (by omega:y1-y0=0∨(y1-y0≠0∧y<min y0 y1)∨(y1-y0≠0∧¬y<min y0 y1∧max y0 y1≤y)∨(y1-y0≠0∧¬y<min y0 y1∧¬max y0 y1≤y)) with h0|⟨h0,h⟩|⟨h0,h,h2⟩|⟨h0,h,h2⟩
 ·have hy:y<min y0 y1∨max y0 y1≤y:=by omega
  rw [if_pos hy,if_pos hy,if_pos hy]
  have d1:(y1-y0 == 0)=true:=by simp [h0]
  have H0:=Lib.hid h0;clear h0 hy
  obtain ⟨n1,n2⟩:=tok2
  go_enter Tryz.func151,Tryz.ntmps151
  go_wp2_with (first|(with_reducible (clear hL n1;intro b1 w1 hL))|((with_reducible refine wpA_lit rfl _ _ _ rfl ?_);first|refine litA1 hL ?_|refine litA2 hL ?_|refine litA3 hL ?_|refine litA4 hL ?_|refine litA6 hL ?_)|((with_reducible refine goJ rfl ?_);refine goW ?_))
  go_ret
  exact hits_none hL
 ·rw [if_pos (.inl h),if_pos (.inl h),if_pos (.inl h)]
  have d1:(y1-y0 == 0)=false:=by simp [h0]
  obtain ⟨n1,n2⟩:=tok2
  go_enter Tryz.func151,Tryz.ntmps151
  go_wp2_with (first|(with_reducible (clear hL n1;intro b1 w1 hL))|((with_reducible refine wpA_lit rfl _ _ _ rfl ?_);first|refine litA1 hL ?_|refine litA2 hL ?_|refine litA3 hL ?_|refine litA4 hL ?_|refine litA6 hL ?_)|((with_reducible refine goJ rfl ?_);refine goW ?_))
  go_ret
  exact hits_none hL
 ·rw [if_pos (.inr h2),if_pos (.inr h2),if_pos (.inr h2)]
  have d1:(y1-y0 == 0)=false:=by simp [h0]
  obtain ⟨n1,n2⟩:=tok2
  go_enter Tryz.func151,Tryz.ntmps151
  go_wp2_with (first|(with_reducible (clear hL n1;intro b1 w1 hL))|((with_reducible refine wpA_lit rfl _ _ _ rfl ?_);first|refine litA1 hL ?_|refine litA2 hL ?_|refine litA3 hL ?_|refine litA4 hL ?_|refine litA6 hL ?_)|((with_reducible refine goJ rfl ?_);refine goW ?_))
  go_ret
  exact hits_none hL
 ·have hno:¬(y<min y0 y1∨max y0 y1≤y):=by omega
  have d1:(y1-y0 == 0)=false:=by simp [h0]
  simp only [if_neg hno]
  clear hno
  rcases (by omega:y1-y0<0∨¬y1-y0<0) with h3|h3
  ·have h4:¬0<y1-y0:=by omega
   simp only [if_pos h3]
   obtain ⟨n1,n2,n3⟩:=tok3
   go_enter Tryz.func151,Tryz.ntmps151
   go_wp2_with (first|(with_reducible first|(clear hL n1;intro b1 w1 hL)|(clear hL n2;intro b2 w2 hL))|((with_reducible refine wpA_lit rfl _ _ _ rfl ?_);first|refine litA1 hL ?_|refine litA2 hL ?_|refine litA3 hL ?_|refine litA4 hL ?_|refine litA6 hL ?_)|((with_reducible refine goJ rfl ?_);refine goW ?_))
   go_ret
   exact hits_one hL rfl
  ·have h4:0<y1-y0:=by omega
   simp only [if_neg h3]
   obtain ⟨n1,n2,n3⟩:=tok3
   go_enter Tryz.func151,Tryz.ntmps151
   go_wp2_with (first|(with_reducible first|(clear hL n1;intro b1 w1 hL)|(clear hL n2;intro b2 w2 hL))|((with_reducible refine wpA_lit rfl _ _ _ rfl ?_);first|refine litA1 hL ?_|refine litA2 hL ?_|refine litA3 hL ?_|refine litA4 hL ?_|refine litA6 hL ?_)|((with_reducible refine goJ rfl ?_);refine goW ?_))
   go_ret
   exact hits_one hL rfl
theorem even_ring1 (b c ax bx x0:Int):x0*(2*b)*(2*b)+2*bx * -c*(2*b)+ax * -c * -c=evP b c ax bx x0:=by unfold evP;grind
theorem even_ring2 (b c ax bx x0:Int):x0*(-2*b)*(-2*b)+2*bx*c*(-2*b)+ax*c*c=evP b c ax bx x0:=by unfold evP;grind
theorem even_sq1 (b:Int):2*b*(2*b)=4*b*b:=by grind
theorem even_sq2 (b:Int) : -2*b*(-2*b)=4*b*b:=by grind
set_option maxRecDepth 100000 in
set_option maxHeartbeats 4000000 in
theorem rEven_calls (e:Edg) (b c y:Int) (hs:Small6 e y) (hb0 : -16382≤b) (hb1:b≤16382) (hc0 : -16382≤c) (hc1:c≤16382) (w:World):Calls Tryz.prog 152 #[edgeV e,.int .i64 b,.int .i64 c] w (HitsOut (hitL (evenS b c (bAX e) (bBX e) e.x0)) w):=by
 obtain ⟨x0,y0,bt,cx,cy,x1,y1⟩:=e
 obtain ⟨a0,a1,b0,b1,c0,c1,d0,d1,e0,e1,f0,f1,g0,g1⟩:=hs
 dsimp only [bAX,bBX] at *
 unfold edgeV
 dsimp only
 have hL:=Holds.start w
 by_cases hbad:(0<b∧c≤0 ∧ -c<2*b)∨(b<0∧0<c∧c ≤ -2*b)
 ·rcases hbad with ⟨h1,h2,h3⟩|⟨h1,h2,h3⟩
  ·have HE:=Lib.hid (show evenS b c (x0-2*cx+x1) (cx-x0) x0=⟨1,evP b c (x0-2*cx+x1) (cx-x0) x0,0,0,4*b*b⟩ from if_pos ⟨h1,h2,h3⟩)
   generalize evenS b c (x0-2*cx+x1) (cx-x0) x0=t at *
   have d2:(-c == 2*b)=false:=by simp;omega
   obtain ⟨n1,n2⟩:=tok2
   go_enter Tryz.func152,Tryz.ntmps152
   go_wp2_with (first|(with_reducible (clear hL n1;intro b1 w1 hL))|((with_reducible refine wpA_lit rfl _ _ _ rfl ?_);first|refine litA1 hL ?_|refine litA2 hL ?_|refine litA3 hL ?_|refine litA4 hL ?_|refine litA6 hL ?_)|((with_reducible refine goJ rfl ?_);refine goW ?_))
   have r0:w1.cell? ⟨b1,0,none⟩=some (.int .i64 x0):=(hL.cell .here).trans rfl
   have r3:w1.cell? ⟨b1,3,none⟩=some (.int .i64 cx):=(hL.cell .here).trans rfl
   have r5:w1.cell? ⟨b1,5,none⟩=some (.int .i64 x1):=(hL.cell .here).trans rfl
   have q6:IntKind.i64.wrap (2*cx)=2*cx:=by rw [IntKind.wrap_i64];omega
   have q7:IntKind.i64.wrap (x0-2*cx)=x0-2*cx:=by rw [IntKind.wrap_i64];omega
   have q8:IntKind.i64.wrap (x0-2*cx+x1)=x0-2*cx+x1:=by rw [IntKind.wrap_i64];omega
   have q9:IntKind.i64.wrap (cx-x0)=cx-x0:=by rw [IntKind.wrap_i64];omega
   have hK:=(Holds.start w1).drew
   refine wpH_begin (by kernel_rfl) (fun w'=>Below w1.heap.size w1 w') ?_
   refine dsH 0 (.pointer (some ⟨b1,3,none⟩)) hK.below ?_
   refine drH 1 (.int .i64 cx) hK.below ?_ ?_;(· exact fun w' hw=>(load_cell (cell_later hw r3)))
   refine dsH 2 (.pointer (some ⟨b1,0,none⟩)) hK.below ?_
   refine drH 3 (.int .i64 x0) hK.below ?_ ?_;(· exact fun w' hw=>(load_cell (cell_later hw r0)))
   refine dsH 4 (.int .i64 (cx-x0)) hK.below ?_
   refine dsH 5 (.pointer (some ⟨b1,0,none⟩)) hK.below ?_
   refine drH 6 (.int .i64 x0) hK.below ?_ ?_;(· exact fun w' hw=>(load_cell (cell_later hw r0)))
   refine dsH 7 (.pointer (some ⟨b1,3,none⟩)) hK.below ?_
   refine drH 8 (.int .i64 cx) hK.below ?_ ?_;(· exact fun w' hw=>(load_cell (cell_later hw r3)))
   refine dsH 9 (.int .i64 (2*cx)) hK.below ?_
   refine dsH 10 (.int .i64 (x0-2*cx)) hK.below ?_
   refine dsH 11 (.pointer (some ⟨b1,5,none⟩)) hK.below ?_
   refine drH 12 (.int .i64 x1) hK.below ?_ ?_;(· exact fun w' hw=>(load_cell (cell_later hw r5)))
   refine dsH 13 (.int .i64 (x0-2*cx+x1)) hK.below ?_
   refine dsH 14 (.int .i64 (cx-x0)) hK.below ?_
   refine dsH 15 (.int .i64 (x0-2*cx+x1)) hK.below ?_
   refine wpAnyH_done (by kernel_rfl) ?_ _
   replace hL:=hL.drew
   clear hK r0 r3 r5 q6 q7 q8 q9
   have hax : -32764≤x0-2*cx+x1∧x0-2*cx+x1≤32764:=by omega
   have hbx : -16382≤cx-x0∧cx-x0≤16382:=by omega
   generalize x0-2*cx+x1=ax at *
   generalize cx-x0=bx at *
   obtain ⟨hax1,hax2⟩:=hax
   obtain ⟨hbx1,hbx2⟩:=hbx
   obtain ⟨k1,k2⟩:=mul_bd (a:=x0) (b:=2*b) (A:=8191) (B:=32764) (by omega) (by omega) (by omega) (by omega)
   obtain ⟨l1,l2⟩:=mul_bd (a:=x0*(2*b)) (b:=2*b) (A:=268369924) (B:=32764) (by omega) (by omega) (by omega) (by omega)
   obtain ⟨m1,m2⟩:=mul_bd (a:=2*bx) (b := -c) (A:=32764) (B:=16382) (by omega) (by omega) (by omega) (by omega)
   obtain ⟨n1,n2⟩:=mul_bd (a:=2*bx * -c) (b:=2*b) (A:=536739848) (B:=32764) (by omega) (by omega) (by omega) (by omega)
   obtain ⟨o1,o2⟩:=mul_bd (a:=ax) (b := -c) (A:=32764) (B:=16382) (by omega) (by omega) (by omega) (by omega)
   obtain ⟨p1,p2⟩:=mul_bd (a:=ax * -c) (b := -c) (A:=536739848) (B:=16382) (by omega) (by omega) (by omega) (by omega)
   obtain ⟨q1,q2⟩:=mul_bd (a:=2*b) (b:=2*b) (A:=32764) (B:=32764) (by omega) (by omega) (by omega) (by omega)
   go_wp2_with (first|(with_reducible (clear hL n1;intro b1 w1 hL))|((with_reducible refine wpA_lit rfl _ _ _ rfl ?_);first|refine litA1 hL ?_|refine litA2 hL ?_|refine litA3 hL ?_|refine litA4 hL ?_|refine litA6 hL ?_)|((with_reducible refine goJ rfl ?_);refine goW ?_))
   go_ret
   rw [HE.out]
   exact hits_one hL (by simp only [sptC];rw [←even_ring1,←even_sq1])
  ·have HE:=Lib.hid (show evenS b c (x0-2*cx+x1) (cx-x0) x0=⟨-1,evP b c (x0-2*cx+x1) (cx-x0) x0,0,0,4*b*b⟩ from by unfold evenS;rw [if_neg (by omega),if_pos ⟨h1,h2,h3⟩])
   generalize evenS b c (x0-2*cx+x1) (cx-x0) x0=t at *
   have d2:(c == 0)=false:=by simp;omega
   obtain ⟨n1,n2⟩:=tok2
   go_enter Tryz.func152,Tryz.ntmps152
   go_wp2_with (first|(with_reducible (clear hL n1;intro b1 w1 hL))|((with_reducible refine wpA_lit rfl _ _ _ rfl ?_);first|refine litA1 hL ?_|refine litA2 hL ?_|refine litA3 hL ?_|refine litA4 hL ?_|refine litA6 hL ?_)|((with_reducible refine goJ rfl ?_);refine goW ?_))
   have r0:w1.cell? ⟨b1,0,none⟩=some (.int .i64 x0):=(hL.cell .here).trans rfl
   have r3:w1.cell? ⟨b1,3,none⟩=some (.int .i64 cx):=(hL.cell .here).trans rfl
   have r5:w1.cell? ⟨b1,5,none⟩=some (.int .i64 x1):=(hL.cell .here).trans rfl
   have q6:IntKind.i64.wrap (2*cx)=2*cx:=by rw [IntKind.wrap_i64];omega
   have q7:IntKind.i64.wrap (x0-2*cx)=x0-2*cx:=by rw [IntKind.wrap_i64];omega
   have q8:IntKind.i64.wrap (x0-2*cx+x1)=x0-2*cx+x1:=by rw [IntKind.wrap_i64];omega
   have q9:IntKind.i64.wrap (cx-x0)=cx-x0:=by rw [IntKind.wrap_i64];omega
   have hK:=(Holds.start w1).drew
   refine wpH_begin (by kernel_rfl) (fun w'=>Below w1.heap.size w1 w') ?_
   refine dsH 0 (.pointer (some ⟨b1,3,none⟩)) hK.below ?_
   refine drH 1 (.int .i64 cx) hK.below ?_ ?_;(· exact fun w' hw=>(load_cell (cell_later hw r3)))
   refine dsH 2 (.pointer (some ⟨b1,0,none⟩)) hK.below ?_
   refine drH 3 (.int .i64 x0) hK.below ?_ ?_;(· exact fun w' hw=>(load_cell (cell_later hw r0)))
   refine dsH 4 (.int .i64 (cx-x0)) hK.below ?_
   refine dsH 5 (.pointer (some ⟨b1,0,none⟩)) hK.below ?_
   refine drH 6 (.int .i64 x0) hK.below ?_ ?_;(· exact fun w' hw=>(load_cell (cell_later hw r0)))
   refine dsH 7 (.pointer (some ⟨b1,3,none⟩)) hK.below ?_
   refine drH 8 (.int .i64 cx) hK.below ?_ ?_;(· exact fun w' hw=>(load_cell (cell_later hw r3)))
   refine dsH 9 (.int .i64 (2*cx)) hK.below ?_
   refine dsH 10 (.int .i64 (x0-2*cx)) hK.below ?_
   refine dsH 11 (.pointer (some ⟨b1,5,none⟩)) hK.below ?_
   refine drH 12 (.int .i64 x1) hK.below ?_ ?_;(· exact fun w' hw=>(load_cell (cell_later hw r5)))
   refine dsH 13 (.int .i64 (x0-2*cx+x1)) hK.below ?_
   refine dsH 14 (.int .i64 (cx-x0)) hK.below ?_
   refine dsH 15 (.int .i64 (x0-2*cx+x1)) hK.below ?_
   refine wpAnyH_done (by kernel_rfl) ?_ _
   replace hL:=hL.drew
   clear hK r0 r3 r5 q6 q7 q8 q9
   have hax : -32764≤x0-2*cx+x1∧x0-2*cx+x1≤32764:=by omega
   have hbx : -16382≤cx-x0∧cx-x0≤16382:=by omega
   generalize x0-2*cx+x1=ax at *
   generalize cx-x0=bx at *
   obtain ⟨hax1,hax2⟩:=hax
   obtain ⟨hbx1,hbx2⟩:=hbx
   obtain ⟨k1,k2⟩:=mul_bd (a:=x0) (b := -2*b) (A:=8191) (B:=32764) (by omega) (by omega) (by omega) (by omega)
   obtain ⟨l1,l2⟩:=mul_bd (a:=x0*(-2*b)) (b := -2*b) (A:=268369924) (B:=32764) (by omega) (by omega) (by omega) (by omega)
   obtain ⟨m1,m2⟩:=mul_bd (a:=2*bx) (b:=c) (A:=32764) (B:=16382) (by omega) (by omega) (by omega) (by omega)
   obtain ⟨n1,n2⟩:=mul_bd (a:=2*bx*c) (b := -2*b) (A:=536739848) (B:=32764) (by omega) (by omega) (by omega) (by omega)
   obtain ⟨o1,o2⟩:=mul_bd (a:=ax) (b:=c) (A:=32764) (B:=16382) (by omega) (by omega) (by omega) (by omega)
   obtain ⟨p1,p2⟩:=mul_bd (a:=ax*c) (b:=c) (A:=536739848) (B:=16382) (by omega) (by omega) (by omega) (by omega)
   obtain ⟨q1,q2⟩:=mul_bd (a := -2*b) (b := -2*b) (A:=32764) (B:=32764) (by omega) (by omega) (by omega) (by omega)
   go_wp2_with (first|(with_reducible (clear hL n1;intro b1 w1 hL))|((with_reducible refine wpA_lit rfl _ _ _ rfl ?_);first|refine litA1 hL ?_|refine litA2 hL ?_|refine litA3 hL ?_|refine litA4 hL ?_|refine litA6 hL ?_)|((with_reducible refine goJ rfl ?_);refine goW ?_))
   go_ret
   rw [HE.out]
   exact hits_one hL (by simp only [sptC];rw [←even_ring2,←even_sq2])
 ·have HE:=Lib.hid (show evenS b c (x0-2*cx+x1) (cx-x0) x0=noSpt from by unfold evenS;rw [if_neg (by omega),if_neg (by omega)])
  generalize evenS b c (x0-2*cx+x1) (cx-x0) x0=t at *
  obtain ⟨n1,n2⟩:=tok2
  go_enter Tryz.func152,Tryz.ntmps152
  go_wp2_with (first|(with_reducible (clear hL n1;intro b1 w1 hL))|((with_reducible refine wpA_lit rfl _ _ _ rfl ?_);first|refine litA1 hL ?_|refine litA2 hL ?_|refine litA3 hL ?_|refine litA4 hL ?_|refine litA6 hL ?_)|((with_reducible refine goJ rfl ?_);refine goW ?_))
  all_goals
   first
   | (go_ret;rw [HE.out];exact hits_none hL)
   | (exfalso;simp only [beq_eq_false_iff_ne,ne_eq] at *;omega)
open Go.RowKit
theorem hit_ring (s a b ax bx:Int):s*(2*a*bx-2*ax*b)=oneQ s a b ax bx:=by unfold oneQ;rw [show 2*ax*b=2*b*ax by grind]
set_option maxRecDepth 100000 in
set_option maxHeartbeats 4000000 in
theorem rHit_calls (e:Edg) (a b s d y:Int) (hs6:Small6 e y) (hB:BOk e.x0 a b d (bAX e) (bBX e)) (hbb:b*b+d≤1073479696) (hs:s=1∨s = -1) (w:World):Calls Tryz.prog 155 #[edgeV e,.int .i64 a,.int .i64 b,.int .i64 s,.int .i64 d] w fun r w'=>r=.returned (.agg #[.int .i64 s,.int .i64 (oneP e.x0 a b d (bAX e) (bBX e)),.int .i64 (oneQ s a b (bAX e) (bBX e)),.int .i64 d,.int .i64 (a*a)])∧Below w.heap.size w w':=by
 obtain ⟨x0,y0,bt,cx,cy,x1,y1⟩:=e
 obtain ⟨a0,a1,b0,b1,c0,c1,d0,d1,e0,e1,f0,f1,g0,g1⟩:=hs6
 obtain ⟨b0',b1',a0',a1',_,_,_,_,_,_,d0',d1'⟩:=hB
 dsimp only [bAX,bBX] at *
 unfold edgeV
 dsimp only
 have hL:=Holds.start w
 have HQ:=Lib.hid (hit_ring s a b (x0-2*cx+x1) (cx-x0))
 have HP:=Lib.hid (show oneP x0 a b d (x0-2*cx+x1) (cx-x0)=x0*a*a-2*a*b*(cx-x0)+(x0-2*cx+x1)*(b*b+d) from rfl)
 generalize oneQ s a b (x0-2*cx+x1) (cx-x0)=Q at *
 generalize oneP x0 a b d (x0-2*cx+x1) (cx-x0)=PP at *
 obtain ⟨n1,n2⟩:=tok2
 go_enter Tryz.func155,Tryz.ntmps155
 go_wp2_with (first|(with_reducible first|(clear hL n1;intro b1 w1 hL)|(clear hL n2;intro b2 w2 hL)|(clear hL;intro _ hL))|((with_reducible refine goJ rfl ?_);refine goW ?_))
 have r0:w2.cell? ⟨b1,0,none⟩=some (.int .i64 x0):=(hL.cell (.there .here)).trans rfl
 have r3:w2.cell? ⟨b1,3,none⟩=some (.int .i64 cx):=(hL.cell (.there .here)).trans rfl
 have r5:w2.cell? ⟨b1,5,none⟩=some (.int .i64 x1):=(hL.cell (.there .here)).trans rfl
 have q6:IntKind.i64.wrap (2*cx)=2*cx:=by rw [IntKind.wrap_i64];omega
 have q7:IntKind.i64.wrap (x0-2*cx)=x0-2*cx:=by rw [IntKind.wrap_i64];omega
 have q8:IntKind.i64.wrap (x0-2*cx+x1)=x0-2*cx+x1:=by rw [IntKind.wrap_i64];omega
 have q9:IntKind.i64.wrap (cx-x0)=cx-x0:=by rw [IntKind.wrap_i64];omega
 have hK:=(Holds.start w2).drew
 refine wpH_begin (by kernel_rfl) (fun w'=>Below w2.heap.size w2 w') ?_
 refine dsH 0 (.pointer (some ⟨b1,3,none⟩)) hK.below ?_
 refine drH 1 (.int .i64 cx) hK.below ?_ ?_;(· exact fun w' hw=>(load_cell (cell_later hw r3)))
 refine dsH 2 (.pointer (some ⟨b1,0,none⟩)) hK.below ?_
 refine drH 3 (.int .i64 x0) hK.below ?_ ?_;(· exact fun w' hw=>(load_cell (cell_later hw r0)))
 refine dsH 4 (.int .i64 (cx-x0)) hK.below ?_
 refine dsH 5 (.pointer (some ⟨b1,0,none⟩)) hK.below ?_
 refine drH 6 (.int .i64 x0) hK.below ?_ ?_;(· exact fun w' hw=>(load_cell (cell_later hw r0)))
 refine dsH 7 (.pointer (some ⟨b1,3,none⟩)) hK.below ?_
 refine drH 8 (.int .i64 cx) hK.below ?_ ?_;(· exact fun w' hw=>(load_cell (cell_later hw r3)))
 refine dsH 9 (.int .i64 (2*cx)) hK.below ?_
 refine dsH 10 (.int .i64 (x0-2*cx)) hK.below ?_
 refine dsH 11 (.pointer (some ⟨b1,5,none⟩)) hK.below ?_
 refine drH 12 (.int .i64 x1) hK.below ?_ ?_;(· exact fun w' hw=>(load_cell (cell_later hw r5)))
 refine dsH 13 (.int .i64 (x0-2*cx+x1)) hK.below ?_
 refine dsH 14 (.int .i64 (cx-x0)) hK.below ?_
 refine dsH 15 (.int .i64 (x0-2*cx+x1)) hK.below ?_
 refine wpAnyH_done (by kernel_rfl) ?_ _
 replace hL:=hL.drew
 clear hK r0 r3 r5 q6 q7 q8 q9
 have hax : -32764≤x0-2*cx+x1∧x0-2*cx+x1≤32764:=by omega
 have hbx : -16382≤cx-x0∧cx-x0≤16382:=by omega
 generalize x0-2*cx+x1=ax at *
 generalize cx-x0=bx at *
 obtain ⟨hax1,hax2⟩:=hax
 obtain ⟨hbx1,hbx2⟩:=hbx
 obtain ⟨j1,j2⟩:=mul_bd (a:=b) (b:=b) (A:=16382) (B:=16382) (by omega) (by omega) (by omega) (by omega)
 obtain ⟨k1,k2⟩:=mul_bd (a:=x0) (b:=a) (A:=8191) (B:=32764) (by omega) (by omega) (by omega) (by omega)
 obtain ⟨l1,l2⟩:=mul_bd (a:=x0*a) (b:=a) (A:=268369924) (B:=32764) (by omega) (by omega) (by omega) (by omega)
 obtain ⟨m1,m2⟩:=mul_bd (a:=2*a) (b:=b) (A:=65528) (B:=16382) (by omega) (by omega) (by omega) (by omega)
 obtain ⟨n1,n2⟩:=mul_bd (a:=2*a*b) (b:=bx) (A:=1073479696) (B:=16382) (by omega) (by omega) (by omega) (by omega)
 obtain ⟨o1,o2⟩:=mul_bd (a:=ax) (b:=b*b+d) (A:=32764) (B:=1073479696) (by omega) (by omega) (by omega) (by omega)
 obtain ⟨p1,p2⟩:=mul_bd (a:=2*a) (b:=bx) (A:=65528) (B:=16382) (by omega) (by omega) (by omega) (by omega)
 obtain ⟨q1,q2⟩:=mul_bd (a:=2*ax) (b:=b) (A:=65528) (B:=16382) (by omega) (by omega) (by omega) (by omega)
 obtain ⟨r1,r2⟩:=mul_bd (a:=a) (b:=a) (A:=32764) (B:=32764) (by omega) (by omega) (by omega) (by omega)
 rcases hs with rfl|rfl
 all_goals
  go_wp2_with (first|(with_reducible first|(clear hL n1;intro b1 w1 hL)|(clear hL n2;intro b2 w2 hL)|(clear hL;intro _ hL))|((with_reducible refine goJ rfl ?_);refine goW ?_))
  refine bodyPost_ret (results_row inferInstance rfl _ hL b2 rfl _ _ .here rfl) rfl ⟨?_,hL.below⟩
  rw [HP.out,←HQ.out]
  try simp only [Int.one_mul,Int.neg_one_mul]
open Go.RowKit
theorem sdR_eq (a p s d:Int):sdR a p s d=sideI a*sgR p s d:=by
 unfold sdR sideI
 split
 ·rw [Int.neg_one_mul]
 ·rw [Int.one_mul]
def refL (e:Edg) (y:Int):List Spt:=hitL (spt1 e y)++hitL (spt2 e y)
theorem sptC_len (l:List Spt):∀ c∈l.map sptC,c.length=5:=by
 intro c hc
 obtain ⟨e,_,rfl⟩:=List.mem_map.1 hc
 rfl
theorem hits_own {w0 w:World} {M M':List Res} {B:Nat} {T:TypeId} {v:Value} {n:Nat} {xs:List Value} (l:List Spt) (hL:Holds w0 w M []) (hr:Rem M (own B T 5 v n xs) M') (hn:n=l.length) (hx:xs=(l.map sptC).flatten):HitsOut l w0 (.returned v) w :=
 ⟨_,rfl,hL.below,(hL.settle hr (φ:=fun w=>SliceAt w 5 v (l.map sptC)) fun w h=>own_sliceAt h (by rw [List.length_map];exact hn) hx (sptC_len l)).fresh⟩
theorem hitL_one1 (x0 a b d ax bx:Int):hitL (oneS 1 x0 a b d ax bx)=if decide (0≤sdR a (-b) 1 d)&&!decide (0≤sdR a (-b-a) 1 d) then [⟨1,oneP x0 a b d ax bx,oneQ 1 a b ax bx,d,a*a⟩] else []:=by
 unfold oneS
 rw [←sdR_eq,←sdR_eq]
 by_cases h1:0≤sdR a (-b) 1 d <;> by_cases h2:0≤sdR a (-b-a) 1 d
 all_goals
  first
  | (rw [if_pos (by omega)];simp [h1,h2,hitL,noSpt])
  | (rw [if_neg (by omega)];simp [h1,h2,hitL])
theorem hitL_one2 (x0 a b d ax bx:Int):hitL (oneS (-1) x0 a b d ax bx)=if !decide (sdR a (-b) (-1) d≤0)&&decide (sdR a (-b-a) (-1) d≤0) then [⟨-1,oneP x0 a b d ax bx,oneQ (-1) a b ax bx,d,a*a⟩] else []:=by
 unfold oneS
 rw [←sdR_eq,←sdR_eq]
 by_cases h1:sdR a (-b) (-1) d≤0 <;> by_cases h2:sdR a (-b-a) (-1) d≤0
 all_goals
  first
  | (rw [if_pos (by omega)];simp [h1,h2,hitL,noSpt])
  | (rw [if_neg (by omega)];simp [h1,h2,hitL])
set_option maxRecDepth 100000 in
set_option maxHeartbeats 8000000 in
theorem rHits_calls (e:Edg) (y:Int) (hs:Small6 e y) (w:World):Calls Tryz.prog 145 #[edgeV e,.int .i64 y] w (HitsOut (refL e y) w):=by
 cases hbt:e.bent with
 | false =>
  have HR:=Lib.hid (show refL e y=hitL ⟨spT e y,spP e y,0,0,spM e y⟩ by unfold refL spt1 spt2;rw [hbt];exact List.append_nil _)
  have HS:=Lib.hid (fun w=>rStraight_calls e y ⟨hs.a0,hs.a1,hs.b0,hs.b1,hs.e0,hs.e1,hs.f0,hs.f1,hs.g0,hs.g1⟩ w)
  obtain ⟨x0,y0,bt,cx,cy,x1,y1⟩:=e
  dsimp only at hbt
  subst hbt
  clear hs
  generalize refL ⟨x0,y0,false,cx,cy,x1,y1⟩ y=l at *
  generalize hitL ⟨spT ⟨x0,y0,false,cx,cy,x1,y1⟩ y,spP ⟨x0,y0,false,cx,cy,x1,y1⟩ y,0,0,spM ⟨x0,y0,false,cx,cy,x1,y1⟩ y⟩=l2 at *
  unfold edgeV at *
  dsimp only at *
  have hL:=Holds.start w
  have n1:True:=trivial
  go_enter Tryz.func145,Tryz.ntmps145
  go_wp2_with (first|(go_at_call 151;(with_reducible refine (HS.out _).mono ?_);rintro e _ ⟨v,rfl,hb,hf⟩;replace hL:=hL.callF hb hf;clear hb hf)|(with_reducible (clear hL n1;intro b1 w1 hL))|((with_reducible refine wpA_lit rfl _ _ _ rfl ?_);first|refine litA1 hL ?_|refine litA2 hL ?_|refine litA3 hL ?_|refine litA4 hL ?_|refine litA6 hL ?_)|((with_reducible refine goJ rfl ?_);refine goW ?_))
  go_ret
  rw [HR.out]
  exact ⟨_,rfl,hL.below,hL.fresh⟩
 | true =>
  have H1:=Lib.hid (show refL e y=hitL (bent1 e.x0 (bA e) (bB e) (bC e y) (bAX e) (bBX e))++hitL (bent2 e.x0 (bA e) (bB e) (bC e y) (bAX e) (bBX e)) by unfold refL spt1 spt2;rw [hbt];rfl)
  have hbb : -16382≤bB e∧bB e≤16382:=by have:=hs.b0;have:=hs.b1;have:=hs.d0;have:=hs.d1;unfold bB;omega
  have hcc : -16382≤bC e y∧bC e y≤16382:=by have:=hs.b0;have:=hs.b1;have:=hs.g0;have:=hs.g1;unfold bC;omega
  have haa : -32764≤bA e∧bA e≤32764:=by have:=hs.b0;have:=hs.b1;have:=hs.d0;have:=hs.d1;have:=hs.f0;have:=hs.f1;unfold bA;omega
  have haxx : -32764≤bAX e∧bAX e≤32764:=by have:=hs.a0;have:=hs.a1;have:=hs.c0;have:=hs.c1;have:=hs.e0;have:=hs.e1;unfold bAX;omega
  have hbxx : -16382≤bBX e∧bBX e≤16382:=by have:=hs.a0;have:=hs.a1;have:=hs.c0;have:=hs.c1;unfold bBX;omega
  have HEv:=Lib.hid (fun w=>rEven_calls e (bB e) (bC e y) y hs hbb.1 hbb.2 hcc.1 hcc.2 w)
  have HHit:=Lib.hid (fun s d w (hd0:0≤d) (hd1:d≤805109772) (hs1:s=1∨s = -1) (hq:bB e*bB e+d≤1073479696)=>rHit_calls e (bA e) (bB e) s d y hs ⟨hbb.1,hbb.2,haa.1,haa.2,haxx.1,haxx.2,hbxx.1,hbxx.2,hs.a0,hs.a1,hd0,hd1⟩ hq hs1 w)
  obtain ⟨x0,y0,bt,cx,cy,x1,y1⟩:=e
  obtain ⟨a0,a1,b0,b1,c0,c1,d0,d1,e0,e1,f0,f1,g0,g1⟩:=hs
  dsimp only at hbt
  subst hbt
  dsimp only [bA,bB,bC] at *
  generalize bAX ⟨x0,y0,true,cx,cy,x1,y1⟩=ax at *
  generalize bBX ⟨x0,y0,true,cx,cy,x1,y1⟩=bx at *
  generalize refL ⟨x0,y0,true,cx,cy,x1,y1⟩ y=l at *
  unfold edgeV at *
  dsimp only at *
  have hL:=Holds.start w
  have n1:True:=trivial
  go_enter Tryz.func145,Tryz.ntmps145
  go_wp2_with (first|(with_reducible (clear hL n1;intro b1 w1 hL))|((with_reducible refine wpA_lit rfl _ _ _ rfl ?_);first|refine litA1 hL ?_|refine litA2 hL ?_|refine litA3 hL ?_|refine litA4 hL ?_|refine litA6 hL ?_)|((with_reducible refine goJ rfl ?_);refine goW ?_))
  have r0:w1.cell? ⟨b1,1,none⟩=some (.int .i64 y0):=(hL.cell .here).trans rfl
  have r4:w1.cell? ⟨b1,4,none⟩=some (.int .i64 cy):=(hL.cell .here).trans rfl
  have r6:w1.cell? ⟨b1,6,none⟩=some (.int .i64 y1):=(hL.cell .here).trans rfl
  have q1:IntKind.i64.wrap (2*cy)=2*cy:=by rw [IntKind.wrap_i64];omega
  have q2:IntKind.i64.wrap (y0-2*cy)=y0-2*cy:=by rw [IntKind.wrap_i64];omega
  have q3:IntKind.i64.wrap (y0-2*cy+y1)=y0-2*cy+y1:=by rw [IntKind.wrap_i64];omega
  have q4:IntKind.i64.wrap (cy-y0)=cy-y0:=by rw [IntKind.wrap_i64];omega
  have q5:IntKind.i64.wrap (y0-y)=y0-y:=by rw [IntKind.wrap_i64];omega
  have hK:=(Holds.start w1).drew
  refine wpH_begin (by kernel_rfl) (fun w'=>Below w1.heap.size w1 w') ?_
  refine dsH 0 (.pointer (some ⟨b1,1,none⟩)) hK.below ?_
  refine drH 1 (.int .i64 y0) hK.below ?_ ?_;(· exact fun w' hw=>(load_cell (cell_later hw r0)))
  refine dsH 2 (.pointer (some ⟨b1,4,none⟩)) hK.below ?_
  refine drH 3 (.int .i64 cy) hK.below ?_ ?_;(· exact fun w' hw=>(load_cell (cell_later hw r4)))
  refine dsH 4 (.int .i64 (2*cy)) hK.below ?_
  refine dsH 5 (.int .i64 (y0-2*cy)) hK.below ?_
  refine dsH 6 (.pointer (some ⟨b1,6,none⟩)) hK.below ?_
  refine drH 7 (.int .i64 y1) hK.below ?_ ?_;(· exact fun w' hw=>(load_cell (cell_later hw r6)))
  refine dsH 8 (.int .i64 (y0-2*cy+y1)) hK.below ?_
  refine dsH 9 (.pointer (some ⟨b1,4,none⟩)) hK.below ?_
  refine drH 10 (.int .i64 cy) hK.below ?_ ?_;(· exact fun w' hw=>(load_cell (cell_later hw r4)))
  refine dsH 11 (.pointer (some ⟨b1,1,none⟩)) hK.below ?_
  refine drH 12 (.int .i64 y0) hK.below ?_ ?_;(· exact fun w' hw=>(load_cell (cell_later hw r0)))
  refine dsH 13 (.int .i64 (cy-y0)) hK.below ?_
  refine dsH 14 (.pointer (some ⟨b1,1,none⟩)) hK.below ?_
  refine drH 15 (.int .i64 y0) hK.below ?_ ?_;(· exact fun w' hw=>(load_cell (cell_later hw r0)))
  refine dsH 16 (.int .i64 y) hK.below ?_
  refine dsH 17 (.int .i64 (y0-y)) hK.below ?_
  refine dsH 18 (.int .i64 (y0-2*cy+y1)) hK.below ?_
  refine dsH 19 (.int .i64 (cy-y0)) hK.below ?_
  refine dsH 20 (.int .i64 (y0-y)) hK.below ?_
  refine wpAnyH_done (by kernel_rfl) ?_ _
  replace hL:=hL.drew
  clear hK r0 r4 r6 q1 q2 q3 q4 q5
  generalize y0-2*cy+y1=a at *
  generalize cy-y0=b at *
  generalize y0-y=c at *
  obtain ⟨ha1,ha2⟩:=haa
  obtain ⟨hb1,hb2⟩:=hbb
  obtain ⟨hc1,hc2⟩:=hcc
  rcases (by omega:(a=0∧b=0)∨(a=0∧b≠0)∨a≠0) with ⟨h0,hb0⟩|⟨h0,hb0⟩|h0
  ·subst h0;subst hb0
   have e1:l=[]:=by rw [H1.out];rfl
   subst e1
   go_wp2_with (first|(with_reducible (clear hL n1;intro b1 w1 hL))|((with_reducible refine wpA_lit rfl _ _ _ rfl ?_);first|refine litA1 hL ?_|refine litA2 hL ?_|refine litA3 hL ?_|refine litA4 hL ?_|refine litA6 hL ?_)|((with_reducible refine goJ rfl ?_);refine goW ?_))
   go_ret
   exact hits_none hL
  ·subst h0
   have d2:(b == 0)=false:=by simp [hb0]
   have e1:l=hitL (evenS b c ax bx x0):=by rw [H1.out];exact List.append_nil _
   have E1:=Lib.hid e1
   clear e1
   go_wp2_with (first|(go_at_call 152;(with_reducible refine (HEv.out _).mono ?_);rintro e _ ⟨v,rfl,hb,hf⟩;replace hL:=hL.callF hb hf;clear hb hf)|((with_reducible refine wpA_lit rfl _ _ _ rfl ?_);first|refine litA1 hL ?_|refine litA2 hL ?_|refine litA3 hL ?_|refine litA4 hL ?_|refine litA6 hL ?_)|((with_reducible refine goJ rfl ?_);refine goW ?_))
   go_ret
   rw [E1.out]
   exact ⟨_,rfl,hL.below,hL.fresh⟩
  ·have d1:(a == 0)=false:=by simp [h0]
   obtain ⟨k1,k2⟩:=mul_bd (a:=b) (b:=b) (A:=16382) (B:=16382) (by omega) (by omega) (by omega) (by omega)
   obtain ⟨k3,k4⟩:=mul_bd (a:=a) (b:=c) (A:=32764) (B:=16382) (by omega) (by omega) (by omega) (by omega)
   rcases (by omega:b*b-a*c<0∨(b*b-a*c=0∧a<0)∨¬(b*b-a*c<0∨(b*b-a*c=0∧a<0))) with h1|⟨h1,h2⟩|h1
   ·have e1:l=[]:=by rw [H1.out,bent1,bent2,if_neg h0,if_neg h0,if_pos (.inl h1),if_pos (.inl h1)];rfl
    subst e1
    go_wp2_with (first|(with_reducible (clear hL n1;intro b1 w1 hL))|((with_reducible refine wpA_lit rfl _ _ _ rfl ?_);first|refine litA1 hL ?_|refine litA2 hL ?_|refine litA3 hL ?_|refine litA4 hL ?_|refine litA6 hL ?_)|((with_reducible refine goJ rfl ?_);refine goW ?_))
    go_ret
    exact hits_none hL
   ·have e1:l=[]:=by rw [H1.out,bent1,bent2,if_neg h0,if_neg h0,if_pos (.inr ⟨h1,h2⟩),if_pos (.inr ⟨h1,h2⟩)];rfl
    subst e1
    have d2:(b*b-a*c == 0)=true:=by simp [h1]
    have H1':=Lib.hid h1;clear h1
    have h1:0≤b*b-a*c:=by have:=H1'.out;omega
    go_wp2_with (first|(with_reducible (clear hL n1;intro b1 w1 hL))|((with_reducible refine wpA_lit rfl _ _ _ rfl ?_);first|refine litA1 hL ?_|refine litA2 hL ?_|refine litA3 hL ?_|refine litA4 hL ?_|refine litA6 hL ?_)|((with_reducible refine goJ rfl ?_);refine goW ?_))
    go_ret
    exact hits_none hL
   ·have e1:l=hitL (oneS 1 x0 a b (b*b-a*c) ax bx)++hitL (oneS (-1) x0 a b (b*b-a*c) ax bx):=by rw [H1.out,bent1,bent2,if_neg h0,if_neg h0,if_neg h1,if_neg h1]
    rw [hitL_one1,hitL_one2] at e1
    have hcase:(a<0∧((b*b-a*c == 0)=false))∨(0<a∧((b*b-a*c == 0)=true))∨(0<a∧((b*b-a*c == 0)=false)):=by
     simp only [beq_iff_eq,beq_eq_false_iff_ne,ne_eq]
     omega
    have hd:0≤b*b-a*c∧b*b-a*c≤805109772:=by omega
    obtain ⟨hd0,hd1⟩:=hd
    have HF:=Lib.hid (fun w=>rFrom_calls a b 1 (b*b-a*c) hb1 hb2 ⟨by omega,by omega,by omega,by omega,by omega,by omega⟩ w)
    have HT:=Lib.hid (fun w=>rTo_calls a b 1 (b*b-a*c) true ha1 ha2 hb1 hb2 ⟨by omega,by omega,by omega,by omega,by omega,by omega⟩ w)
    have HF0:=Lib.hid (fun w=>rFrom0_calls a b (-1) (b*b-a*c) hb1 hb2 ⟨by omega,by omega,by omega,by omega,by omega,by omega⟩ w)
    have HT0:=Lib.hid (fun w=>rTo_calls a b (-1) (b*b-a*c) false ha1 ha2 hb1 hb2 ⟨by omega,by omega,by omega,by omega,by omega,by omega⟩ w)
    have HH1:=Lib.hid (fun w=>HHit.out 1 (b*b-a*c) w hd0 hd1 (.inl rfl) (by omega))
    have HH2:=Lib.hid (fun w=>HHit.out (-1) (b*b-a*c) w hd0 hd1 (.inr rfl) (by omega))
    simp only [if_true,Bool.false_eq_true,if_false] at HT HT0
    generalize decide (0≤sdR a (-b) 1 (b*b-a*c))=f1 at *
    generalize decide (0≤sdR a (-b-a) 1 (b*b-a*c))=g1 at *
    generalize decide (sdR a (-b) (-1) (b*b-a*c)≤0)=f2 at *
    generalize decide (sdR a (-b-a) (-1) (b*b-a*c)≤0)=g2 at *
    generalize oneP x0 a b (b*b-a*c) ax bx=PP at *
    generalize oneQ 1 a b ax bx=Q1 at *
    generalize oneQ (-1) a b ax bx=Q2 at *
    have E1:=Lib.hid e1
    clear e1 H1 h1 HHit HEv
    have hsel1:f1=false∨(f1=true∧g1=true)∨(f1=true∧g1=false):=by cases f1 <;> cases g1 <;> simp
    have hsel2:f2=true∨(f2=false∧g2=true)∨(f2=false∧g2=false):=by cases f2 <;> cases g2 <;> simp
    rcases hcase with ⟨hs,d2⟩|⟨hs,d2⟩|⟨hs,d2⟩
    all_goals
     replace hL:=hL.newOwn (B:=w.heap.size) (e:=198) (size:=5)
     rcases hsel1 with rfl|⟨rfl,rfl⟩|⟨rfl,rfl⟩ <;> rcases hsel2 with rfl|⟨rfl,rfl⟩|⟨rfl,rfl⟩
     all_goals
      have n1:True:=trivial
      go_wp2_with (first|(go_at_call 153;(with_reducible refine (HF.out _).mono ?_);rintro e _ ⟨rfl,hb⟩;replace hL:=hL.call hb;clear hb)|(go_at_call 156;(with_reducible refine (HF0.out _).mono ?_);rintro e _ ⟨rfl,hb⟩;replace hL:=hL.call hb;clear hb)|(go_at_call 154;(first|((with_reducible refine (HT.out _).mono ?_);rintro e _ ⟨rfl,hb⟩;replace hL:=hL.call hb;clear hb)|((with_reducible refine (HT0.out _).mono ?_);rintro e _ ⟨rfl,hb⟩;replace hL:=hL.call hb;clear hb)))|(go_at_call 155;(first|((with_reducible refine (HH1.out _).mono ?_);rintro e _ ⟨rfl,hb⟩;replace hL:=hL.call hb;clear hb)|((with_reducible refine (HH2.out _).mono ?_);rintro e _ ⟨rfl,hb⟩;replace hL:=hL.call hb;clear hb)))|(with_reducible first|(clear hL;intro _ _ _ hL;try dsimp only at hL)|(clear hL n1;intro b1 w1 hL)|(clear hL;intro _ _ hL))|((with_reducible refine wpA_lit rfl _ _ _ rfl ?_);first|refine litA1 hL ?_|refine litA2 hL ?_|refine litA3 hL ?_|refine litA4 hL ?_|refine litA6 hL ?_)|((with_reducible refine goJ rfl ?_);refine goW ?_))
      go_ret
      have e1:=E1.out
      simp only [Bool.not_true,Bool.not_false,Bool.and_false,Bool.false_and,Bool.and_self,if_true,Bool.false_eq_true,if_false,List.append_nil,List.nil_append,List.cons_append] at e1
      subst e1
      first|exact hits_own _ hL .here rfl rfl|exact hits_own _ hL (.there .here) rfl rfl
open Go.RowKit
def hsum (l:List Spt) (x:Int):Int:=(l.map fun s=>if 0<sgR (s.p-x*s.m) s.q s.d then s.turn else 0).sum
theorem hsum_hitL (s:Spt) (x:Int):hsum (hitL s) x=hitT s x:=by
 unfold hitL hitT
 by_cases h:s.turn=0
 ·simp [h,hsum]
 ·rw [if_neg h]
  by_cases h2:0<sgR (s.p-x*s.m) s.q s.d
  ·rw [if_pos ⟨h,h2⟩];simp [hsum,h2]
  ·rw [if_neg (fun k=>h2 k.2)];simp [hsum,h2]
theorem hsum_append (l m:List Spt) (x:Int):hsum (l++m) x=hsum l x+hsum m x:=by simp [hsum]
theorem hsum_refL (e:Edg) (x y:Int):hsum (refL e y) x=hitT (spt1 e y) x+hitT (spt2 e y) x:=by rw [refL,hsum_append,hsum_hitL,hsum_hitL]
theorem hsum_step {l:List Spt} {k:Nat} (h:k<l.length) (x:Int):hsum (l.take (k+1)) x=hsum (l.take k) x+(if 0<sgR ((l.getD k noSpt).p-x*(l.getD k noSpt).m) (l.getD k noSpt).q (l.getD k noSpt).d then (l.getD k noSpt).turn else 0):=by
 unfold hsum
 rw [List.take_succ_eq_append_getElem h,List.map_append,List.sum_append]
 simp [h]
theorem refL_mem {e:Edg} {y:Int} {s:Spt} (h:s∈refL e y):s=spt1 e y∨s=spt2 e y:=by
 unfold refL hitL at h
 rcases List.mem_append.1 h with h|h <;> (split at h) <;> simp at h
 ·exact .inl h
 ·exact .inr h
theorem refL_len (e:Edg) (y:Int):(refL e y).length≤2:=by
 unfold refL hitL
 split <;> split <;> simp
theorem hsum_bd {l:List Spt} (h:∀ s∈l,-1≤s.turn∧s.turn≤1) (x:Int) : -(l.length:Int)≤hsum l x∧hsum l x≤l.length:=by
 induction l with
 | nil=>simp [hsum]
 | cons s l ih =>
  have h1:=ih fun t ht=>h t (List.mem_cons_of_mem _ ht)
  have h2:=h s List.mem_cons_self
  have h3:hsum (s::l) x=(if 0<sgR (s.p-x*s.m) s.q s.d then s.turn else 0)+hsum l x:=by simp [hsum]
  rw [h3,List.length_cons]
  split <;> omega
theorem hit_at {w:World} {a:Option Addr} {n cap k b o:Nat} {l:List Spt} (h:SliceAt w 5 (.slice a n cap) (l.map sptC)) (hk:k<l.length) (ha:a=some ⟨b,o,none⟩):w.rangeAt b (o+k*5) (sptC (l.getD k noSpt)):=by
 obtain ⟨a',cap',he,_,_,hel⟩:=h
 cases he
 obtain ⟨b',o',e,hr⟩:=hel k (by rw [List.length_map];exact hk)
 rw [ha] at e
 cases e
 simp only [List.getElem_map] at hr
 rw [show l.getD k noSpt=l[k] by simp [hk]]
 exact hr
set_option maxRecDepth 100000 in
set_option maxHeartbeats 4000000 in
theorem rTurns_calls (e:Edg) (x y:Int) (w:World):Calls Tryz.prog 136 #[edgeV e,.int .i64 x,.int .i64 y] w fun r w'=>r=.returned (.int .i64 (turnG e x y))∧Below w.heap.size w w':=by
 have hL:=Holds.start w
 have HM:=Lib.hid (fun w=>refIsEdge_calls e w)
 have HX:=Lib.hid (fun w=>refIsCoord_calls x w)
 have HY:=Lib.hid (fun w=>refIsCoord_calls y w)
 by_cases hok:mayE e=true∧near1 x=true∧near1 y=true
 ·obtain ⟨hm,hx,hy⟩:=hok
  have hs:=small6_of hm hy
  have HR:=Lib.hid (show turnG e x y=hsum (refL e y) x by unfold turnG;rw [hm,hx,hy,hsum_refL];rfl)
  have HH:=Lib.hid (fun w=>rHits_calls e y hs w)
  have hxb : -8191≤x∧x≤8191:=by simpa [near1] using hx
  have hft:∀ s∈refL e y,FitAt s x∧(-1≤s.turn∧s.turn≤1):=fun s h=>by
   have h1:=spt_fit hs hxb.1 hxb.2
   have h2:=spt_turn e y
   rcases refL_mem h with rfl|rfl
   ·exact ⟨h1.1,h2.1⟩
   ·exact ⟨h1.2,h2.2⟩
  have HFt:=Lib.hid hft;clear hft
  have hlen:=refL_len e y
  rw [hm] at HM
  rw [hx] at HX
  rw [hy] at HY
  clear hm hx hy hs hxb
  generalize turnG e x y=T at *
  generalize refL e y=l at *
  obtain ⟨ex0,ey0,bt,ecx,ecy,ex1,ey1⟩:=e
  unfold edgeV at *
  dsimp only at *
  have n1:True:=trivial
  go_enter Tryz.func136,Tryz.ntmps136
  go_wp2_with (first|(go_at_call 144;(with_reducible refine (HM.out _).mono ?_);rintro e _ ⟨rfl,hb⟩;replace hL:=hL.call hb;clear hb)|(go_at_call 119;(first|((with_reducible refine (HX.out _).mono ?_);rintro e _ ⟨rfl,rfl⟩)|((with_reducible refine (HY.out _).mono ?_);rintro e _ ⟨rfl,rfl⟩)))|(go_at_call 145;(with_reducible refine (HH.out _).mono ?_);rintro e _ ⟨v,rfl,hb,hf⟩;obtain ⟨va,vc,hv,_⟩:=hf.now;rw [List.length_map] at hv;subst hv;replace hL:=hL.callF hb hf;clear hb hf)|(with_reducible (clear hL n1;intro b1 w1 hL))|((with_reducible refine goJ rfl ?_);refine goW ?_))
  go_loopw [7,9] (fun s7 s9 wr=>∃ k:Nat,k≤l.length∧s9=.int .i64 k∧s7=.int .i64 (hsum (l.take k) x)∧Holds w wr [blk b1 #[.int .i64 ex0,.int .i64 ey0,.bool bt,.int .i64 ecx,.int .i64 ecy,.int .i64 ex1,.int .i64 ey1] 177] [fun w=>SliceAt w 5 (.slice va l.length vc) (l.map sptC)])
   (fun s7 s9 wr=>2-(intOf s9).toNat)
  case atStart=>exact ⟨0,by omega,rfl,rfl,hL⟩
  case round =>
   clear hL
   obtain ⟨k,hk,rfl,rfl,hL⟩:=hrel
   by_cases hkt:k<l.length
   ·obtain ⟨va',vc',hv',_,_,hel⟩:=hL.fact0
    simp only [List.length_map,Value.slice.injEq,true_and] at hv'
    obtain ⟨rfl,rfl⟩:=hv'
    obtain ⟨b,o,rfl,_⟩:=hel k (by rw [List.length_map];exact hkt)
    clear hel
    have hmem:l.getD k noSpt∈l:=by simp [hkt]
    have hfit:=(HFt.out _ hmem).1
    have htn:=(HFt.out _ hmem).2
    have hstep:=hsum_step hkt x
    have hbd:=hsum_bd (fun s hs=>(HFt.out s (List.mem_of_mem_take hs)).2:∀ s∈l.take k,-1≤s.turn∧s.turn≤1) x
    rw [List.length_take] at hbd
    have hr:=hit_at hL.fact0 hkt rfl
    have HAt:=Lib.hid (fun (w:World) (h:SliceAt w 5 (.slice (some ⟨b,o,none⟩) l.length vc) (l.map sptC))=>hit_at h hkt rfl)
    have HA:=Lib.hid (fun w=>rAbove_calls (l.getD k noSpt) x hfit w)
    have Hstep:=Lib.hid hstep
    clear hstep hmem hfit
    generalize hsum (l.take k) x=S0 at *
    generalize l.getD k noSpt=s at *
    obtain ⟨turn,p,q,d,m⟩:=s
    unfold sptV at HA
    unfold sptC at hr HAt
    dsimp only at *
    generalize sgR (p-x*m) q d=v at *
    obtain ⟨t1,t2⟩:=htn
    obtain ⟨s1,s2⟩:=hbd
    have hkb:(k:Int)<(l.length:Int):=by omega
    rcases (by omega:0<v∨¬0<v) with hp|hp
    all_goals
     go_wp2_with (first|(go_at_call 146;(with_reducible refine (HA.out _).mono ?_);rintro e _ ⟨rfl,hb⟩;replace hL:=hL.call hb;clear hb;have hc2:=(HAt.out _ hL.fact0) 0 _ rfl;rw [Nat.add_zero] at hc2)|((with_reducible refine goJ rfl ?_);refine goW ?_))
     go_roundw
     case rel=>exact ⟨k+1,by omega,by go_num,by (rw [Hstep.out];first|rw [if_pos hp]|rw [if_neg (by omega),Int.add_zero]),hL⟩
     case measure=>simp [intOf];omega
   ·have e:k=l.length:=by omega
    subst e
    rw [List.take_length]
    go_wp2_with (first|(with_reducible first|(clear hL n1;intro b1 w1 hL)|(clear hL;intro _ _ hL))|((with_reducible refine goJ rfl ?_);refine goW ?_))
    go_ret
    exact ⟨ret_int HR.out.symm,hL.below⟩
 ·have HR:=Lib.hid (show turnG e x y=0 by
   unfold turnG
   rw [if_neg]
   intro h
   simp only [Bool.and_eq_true] at h
   exact hok ⟨h.1,h.2.1,h.2.2⟩)
  have hc:mayE e=false∨(mayE e=true∧near1 x=false)∨(mayE e=true∧near1 x=true∧near1 y=false):=by
   revert hok
   cases mayE e <;> cases near1 x <;> cases near1 y <;> simp
  clear hok
  generalize turnG e x y=T at *
  rcases hc with h|⟨h,h2⟩|⟨h,h2,h3⟩
  all_goals
   rw [h] at HM
   try rw [h2] at HX
   try rw [h3] at HY
   clear h
   try clear h2
   try clear h3
  all_goals
   obtain ⟨ex0,ey0,bt,ecx,ecy,ex1,ey1⟩:=e
   unfold edgeV at *
   dsimp only at *
   have n1:True:=trivial
   go_enter Tryz.func136,Tryz.ntmps136
   go_wp2_with (first|(go_at_call 144;(with_reducible refine (HM.out _).mono ?_);rintro e _ ⟨rfl,hb⟩;replace hL:=hL.call hb;clear hb)|(go_at_call 119;(first|((with_reducible refine (HX.out _).mono ?_);rintro e _ ⟨rfl,rfl⟩)|((with_reducible refine (HY.out _).mono ?_);rintro e _ ⟨rfl,rfl⟩)))|(with_reducible (clear hL n1;intro b1 w1 hL))|((with_reducible refine goJ rfl ?_);refine goW ?_))
   go_ret
   exact ⟨ret_int HR.out.symm,hL.below⟩
set_option maxRecDepth 100000 in
set_option maxHeartbeats 2000000 in
theorem rAt_calls (w:World) (v:Value) (l:List Edg) (hv:EdgesAt w v l) (hlen:l.length≤1152921504606846976) (x y:Int) :
  Calls Tryz.prog 125 #[v,.int .i64 x,.int .i64 y] w fun r w'=>r=.returned (.int .i64 (windG l x y))∧Below w.heap.size w w':=by
 obtain ⟨a,cap,rfl,hlc,hcm,hel⟩:=hv.parts
 clear hv
 unfold maxLen at hcm
 have Hel:=Lib.hid hel;clear hel
 have hL:=Holds.start w
 go_enter Tryz.func125,Tryz.ntmps125
 go_wp2_with (first|((with_reducible refine goJ rfl ?_);refine goW ?_))
 go_loopw [7,8] (fun s7 s8 wr=>∃ (k:Nat),k≤l.length∧s8=.int .i64 k∧s7=.int .i64 (windG (l.take k) x y)∧Holds w wr [] [])
  (fun s7 s8 wr=>l.length-(intOf s8).toNat)
 case atStart=>exact ⟨0,by omega,rfl,rfl,hL⟩
 case round =>
  clear hL
  obtain ⟨k,hk,rfl,rfl,hL⟩:=hrel
  by_cases hkt:k<l.length
  ·obtain ⟨b,o,rfl,hc⟩:=Hel.out k hkt
   have hstep:=windG_step hkt x y
   have hbd:=windG_bd x y (l.take k)
   rw [List.length_take] at hbd
   have hlk:((min k l.length:Nat):Int)≤l.length:=by omega
   have HT:=Lib.hid (fun w=>rTurns_calls (l.getD k default) x y w)
   have htb:=turnG_bd (l.getD k default) x y
   have Hstep:=Lib.hid hstep;clear hstep
   generalize windG (l.take k) x y=S0 at *
   generalize l.getD k default=e at *
   obtain ⟨ex0,ey0,bt,ecx,ecy,ex1,ey1⟩:=e
   unfold edgeV at HT
   unfold edgeC at hc
   dsimp only at HT hc
   generalize turnG ⟨ex0,ey0,bt,ecx,ecy,ex1,ey1⟩ x y=T at *
   obtain ⟨g1,g2⟩:=hbd
   obtain ⟨g3,g4⟩:=htb
   have hkb:(k:Int)<(l.length:Int):=by omega
   go_wp2_with (first|(go_at_call 136;(with_reducible refine (HT.out _).mono ?_);rintro e _ ⟨rfl,hb⟩;replace hL:=hL.call hb;clear hb)|((with_reducible refine goJ rfl ?_);refine goW ?_))
   go_roundw
   case rel=>exact ⟨k+1,by omega,by go_num,by rw [Hstep.out],hL⟩
   case measure=>simp [intOf];omega
  ·have e:k=l.length:=by omega
   subst e
   rw [List.take_length]
   go_wp2_with (first|((with_reducible refine goJ rfl ?_);refine goW ?_))
   go_ret
   exact ⟨rfl,hL.below⟩
theorem bne_dec (a:Int):(a != 0)=decide (a≠0):=by by_cases h:a=0 <;> simp [h]
theorem rIsIn_calls (rule n:Int) (w:World):Calls Tryz.prog 124 #[.int .i64 rule,.int .i64 n] w fun e w'=>e=.returned (.bool (isIn rule n))∧w=w':=by
 have hm:(n.tmod 2=0) ↔ (n%2=0):=by rw [Int.tmod_eq_emod];split <;> omega
 rcases (by omega:rule=0∨rule=1∨(rule≠0∧rule≠1)) with h|h|⟨h,h2⟩
 ·subst h
  rcases (by omega:n=0∨n≠0) with h3|h3
  ·subst h3
   go_enter Tryz.func124,Tryz.ntmps124
   go_wp2
   go_ret
   exact ⟨rfl,rfl⟩
  ·have d1:(n != 0)=true:=by simp [h3]
   go_enter Tryz.func124,Tryz.ntmps124
   go_wp2
   go_ret
   exact ⟨ret_bool (by simp [isIn,h3]),rfl⟩
 ·subst h
  have HM:=Lib.hid hm;clear hm
  go_enter Tryz.func124,Tryz.ntmps124
  go_wp2
  go_ret
  exact ⟨ret_bool (by show (n.tmod 2 != 0)=decide (n%2≠0);rw [bne_dec];exact decide_eq_decide.2 (not_congr HM.out)),rfl⟩
 ·have d1:(rule == 0)=false:=by simp [h]
  have d2:(rule == 1)=false:=by simp [h2]
  have HI:=Lib.hid (show isIn rule n=false by simp [isIn,h,h2])
  clear hm h h2
  go_enter Tryz.func124,Tryz.ntmps124
  go_wp2
  go_ret
  exact ⟨ret_bool HI.out.symm,rfl⟩
set_option maxRecDepth 100000 in
theorem rIn_calls (w:World) (v:Value) (l:List Edg) (hv:EdgesAt w v l) (hlen:l.length≤1152921504606846976) (rule x y:Int) :
  Calls Tryz.prog 81 #[v,.int .i64 rule,.int .i64 x,.int .i64 y] w fun r w'=>r=.returned (.bool (isIn rule (windG l x y)))∧Below w.heap.size w w':=by
 have HA:=Lib.hid (rAt_calls w v l hv hlen x y)
 have HI:=Lib.hid (fun w=>rIsIn_calls rule (windG l x y) w)
 clear hv hlen
 generalize windG l x y=n at *
 have hL:=Holds.start w
 go_enter Tryz.func81,Tryz.ntmps81
 go_wp2_with (first|(go_at_call 125;(with_reducible refine HA.out.mono ?_);rintro e _ ⟨rfl,hb⟩;replace hL:=hL.call hb;clear hb)|(go_at_call 124;(with_reducible refine (HI.out _).mono ?_);rintro e _ ⟨rfl,rfl⟩))
 go_ret
 exact ⟨rfl,hL.below⟩
open Go.RowKit
theorem refSide_calls (a:Int) (w:World) :
  Calls Tryz.prog 33 #[.int .i64 a] w fun e w'=>e=.returned (.bool (isSide a))∧w=w':=by
 rcases (by omega:(1≤a∧a≤64)∨¬1≤a∨(1≤a∧¬a≤64)) with ⟨h1,h2⟩|h1|⟨h1,h2⟩
 ·have Hr:=Lib.hid (show isSide a=true by simp [isSide,h1,h2])
  go_enter Tryz.func33,Tryz.ntmps33
  go_wp2
  go_ret
  exact ⟨ret_bool (by rw [Hr.out]),rfl⟩
 ·have Hr:=Lib.hid (show isSide a=false by simp [isSide,h1])
  go_enter Tryz.func33,Tryz.ntmps33
  go_wp2
  go_ret
  exact ⟨ret_bool (by rw [Hr.out]),rfl⟩
 ·have Hr:=Lib.hid (show isSide a=false by simp [isSide,h2])
  go_enter Tryz.func33,Tryz.ntmps33
  go_wp2
  go_ret
  exact ⟨ret_bool (by rw [Hr.out]),rfl⟩
set_option maxRecDepth 100000 in
set_option maxHeartbeats 1000000 in
theorem refMayMask_calls (w:World) (v:Value) (m:Msk) (hv:MaskAt w v m) :
  Calls Tryz.prog 82 #[v] w fun e w'=>e=.returned (.bool (mayMask m))∧Below w.heap.size w w':=by
 obtain ⟨a,cap,rfl,hlc,hcm,hB⟩:=hv.shape
 obtain ⟨a',cap',he,_,_,hel⟩:=hB.parts
 cases he
 clear hB hv
 obtain ⟨W,H,B⟩:=m
 simp only at hlc hel ⊢
 unfold maxLen at hcm
 have Hel:=Lib.hid hel;clear hel
 have hL:=Holds.start w
 cases h1:isSide W with
 | false =>
  have Hr:=Lib.hid (show mayMask ⟨W,H,B⟩=false by simp [mayMask,h1])
  obtain ⟨n1,n2⟩:=tok2
  go_enter Tryz.func82,Tryz.ntmps82
  go_wp2_with (first|(go_at_call 33;(with_reducible refine (refSide_calls _ _).mono ?_);rintro e _ ⟨rfl,rfl⟩)|(with_reducible (clear hL n1;intro b1 w1 hL))|((with_reducible refine goJ rfl ?_);refine goW ?_))
  go_ret
  exact ⟨ret_bool (by rw [Hr.out]),hL.below⟩
 | true =>
  cases h2:isSide H with
  | false =>
   have Hr:=Lib.hid (show mayMask ⟨W,H,B⟩=false by simp [mayMask,h2])
   obtain ⟨n1,n2⟩:=tok2
   go_enter Tryz.func82,Tryz.ntmps82
   go_wp2_with (first|(go_at_call 33;(with_reducible refine (refSide_calls _ _).mono ?_);rintro e _ ⟨rfl,rfl⟩)|(with_reducible (clear hL n1;intro b1 w1 hL))|((with_reducible refine goJ rfl ?_);refine goW ?_))
   go_ret
   exact ⟨ret_bool (by rw [Hr.out]),hL.below⟩
  | true =>
   obtain ⟨s1,s2,s3,s4,s5,s6⟩:=side_mul h1 h2
   cases h3:((B.length:Int) != W*H) with
   | true =>
    have Hr:=Lib.hid (show mayMask ⟨W,H,B⟩=false by simp at h3;simp [mayMask,h3])
    obtain ⟨n1,n2⟩:=tok2
    go_enter Tryz.func82,Tryz.ntmps82
    go_wp2_with (first|(go_at_call 33;(with_reducible refine (refSide_calls _ _).mono ?_);rintro e _ ⟨rfl,rfl⟩)|(with_reducible (clear hL n1;intro b1 w1 hL))|((with_reducible refine goJ rfl ?_);refine goW ?_))
    go_ret
    exact ⟨ret_bool (by rw [Hr.out]),hL.below⟩
   | false =>
    have Hr:=Lib.hid (show mayMask ⟨W,H,B⟩=B.all fun b=>decide (b≤1) by simp at h3;simp [mayMask,h1,h2,h3])
    obtain ⟨n1,n2⟩:=tok2
    go_enter Tryz.func82,Tryz.ntmps82
    go_wp2_with (first|(go_at_call 33;(with_reducible refine (refSide_calls _ _).mono ?_);rintro e _ ⟨rfl,rfl⟩)|(with_reducible (clear hL n1;intro b1 w1 hL))|((with_reducible refine goJ rfl ?_);refine goW ?_))
    go_loopw [3] (fun s3 wr=>∃ k:Nat,k≤B.length∧s3=.int .i64 k∧((B.take k).all fun b=>decide (b≤1))=true∧Holds w wr [blk b1 #[.int .i64 W,.int .i64 H,.slice a B.length cap] 86] [])
     (fun s3 wr=>B.length-(intOf s3).toNat)
    case atStart=>exact ⟨0,by omega,rfl,rfl,hL⟩
    case round =>
     clear hL
     obtain ⟨k,hk,rfl,hm,hL⟩:=hrel
     by_cases hlt:k<B.length
     ·obtain ⟨b,o,rfl,hc⟩:=Hel.out k hlt
      have Hs:=Lib.hid (all_take_step (fun b=>decide (b≤1)) B k 0 hlt)
      rw [hm] at Hs
      have Hf:=Lib.hid (all_take_false (fun b=>decide (b≤1)) B (k+1))
      clear hm
      generalize B.getD k 0=x at *
      by_cases hx:x≤1
      ·have hx2:decide (1<x)=false:=by simp;omega
       go_wp2_with ((with_reducible refine goJ rfl ?_);refine goW ?_)
       go_roundw
       case rel=>exact ⟨k+1,by omega,by go_num,by rw [Hs.out];simp [hx],hL⟩
       case measure=>simp [intOf];omega
      ·have hx2:decide (1<x)=true:=by simp;omega
       go_wp2_with ((with_reducible refine goJ rfl ?_);refine goW ?_)
       go_ret
       exact ⟨ret_bool (by rw [Hr.out,Hf.out (by rw [Hs.out];simp [hx])]),hL.below⟩
     ·have e:k=B.length:=by omega
      subst e
      rw [List.take_length] at hm
      have Hm:=Lib.hid hm;clear hm
      go_wp2_with ((with_reducible refine goJ rfl ?_);refine goW ?_)
      go_ret
      exact ⟨ret_bool (by rw [Hr.out,Hm.out]),hL.below⟩
open Go.RowKit
def fairS (l:List Sg) (rule wi hi:Int):Bool:=pathMay l&&(rule == 0 || rule == 1)&&isSide wi&&isSide hi
set_option maxRecDepth 100000 in
set_option maxHeartbeats 8000000 in
theorem rFair_calls (w:World) (v:Value) (l:List Sg) (hv:SegsAt w v l) (rule wi hi:Int) :
  Calls Tryz.prog 79 #[v,.int .i64 rule,.int .i64 wi,.int .i64 hi] w fun e w'=>e=.returned (.bool (fairS l rule wi hi))∧Below w.heap.size w w':=by
 have Hv:=Lib.hid hv
 obtain ⟨a,cap,rfl,_⟩:=hv.parts
 clear hv
 have hL:=Holds.start w
 have HR:=Lib.hid (show fairS l rule wi hi=(pathMay l&&(rule == 0 || rule == 1)&&isSide wi&&isSide hi) from rfl)
 have HPM:=Lib.hid (fun w' hv'=>rMay_calls w' (.slice a l.length cap) l hv')
 have HSW:=Lib.hid (fun w'=>refSide_calls wi w')
 have HSH:=Lib.hid (fun w'=>refSide_calls hi w')
 generalize fairS l rule wi hi=R at *
 generalize pathMay l=pm at *
 generalize isSide wi=sw at *
 generalize isSide hi=sh at *
 cases pm with
 | false =>
  go_enter Tryz.func79,Tryz.ntmps79
  go_wp2_with (go_at_call 52;(with_reducible refine (HPM.out _ (Hv.out.hold hL)).mono ?_);rintro e _ ⟨rfl,hb⟩;replace hL:=hL.call hb;clear hb)
  go_ret
  exact ⟨ret_bool (by rw [HR.out];rfl),hL.below⟩
 | true =>
  have hrr:(rule == 0)=true∨((rule == 0)=false∧(rule == 1)=true)∨((rule == 0)=false∧(rule == 1)=false):=by cases rule == 0 <;> cases rule == 1 <;> simp
  have hsd:(sw=false)∨(sw=true∧sh=false)∨(sw=true∧sh=true):=by cases sw <;> cases sh <;> simp
  rcases hrr with h0|⟨h0,h1⟩|⟨h0,h1⟩
  ·rw [h0] at HR
   rcases hsd with h2|⟨h2,h3⟩|⟨h2,h3⟩
   all_goals
    subst h2
    try subst h3
    go_enter Tryz.func79,Tryz.ntmps79
    go_wp2_with (first|(go_at_call 52;(with_reducible refine (HPM.out _ (Hv.out.hold hL)).mono ?_);rintro e _ ⟨rfl,hb⟩;replace hL:=hL.call hb;clear hb)|(go_at_call 33;first|((with_reducible refine (HSW.out _).mono ?_);rintro e _ ⟨rfl,rfl⟩)|((with_reducible refine (HSH.out _).mono ?_);rintro e _ ⟨rfl,rfl⟩)))
    go_ret
    exact ⟨ret_bool (by rw [HR.out];rfl),hL.below⟩
  ·rw [h0,h1] at HR
   rcases hsd with h2|⟨h2,h3⟩|⟨h2,h3⟩
   all_goals
    subst h2
    try subst h3
    go_enter Tryz.func79,Tryz.ntmps79
    go_wp2_with (first|(go_at_call 52;(with_reducible refine (HPM.out _ (Hv.out.hold hL)).mono ?_);rintro e _ ⟨rfl,hb⟩;replace hL:=hL.call hb;clear hb)|(go_at_call 33;first|((with_reducible refine (HSW.out _).mono ?_);rintro e _ ⟨rfl,rfl⟩)|((with_reducible refine (HSH.out _).mono ?_);rintro e _ ⟨rfl,rfl⟩)))
    go_ret
    exact ⟨ret_bool (by rw [HR.out];rfl),hL.below⟩
  ·rw [h0,h1] at HR
   clear hsd
   go_enter Tryz.func79,Tryz.ntmps79
   go_wp2_with (go_at_call 52;(with_reducible refine (HPM.out _ (Hv.out.hold hL)).mono ?_);rintro e _ ⟨rfl,hb⟩;replace hL:=hL.call hb;clear hb)
   go_ret
   exact ⟨ret_bool (by rw [HR.out];rfl),hL.below⟩
def upF (p:Nat→Nat→Bool) (j k r c:Nat):Bool:=(decide (r<j) || (decide (r=j)&&decide (c<k)))&&p r c
theorem upF_zero {W n:Nat} (p:Nat→Nat→Bool):arrU n (fun _=>0)=arrU n (maskF W (upF p 0 0)):=arrU_congr fun x _=>by simp [maskF,upF,bit]
theorem upF_at {W j k x:Nat} (hk:k<W) (h:x=W*j+k):x / W=j∧x%W=k:=by
 subst h
 exact ⟨by rw [Nat.mul_add_div (by omega),Nat.div_eq_of_lt hk,Nat.add_zero],by rw [Nat.mul_add_mod,Nat.mod_eq_of_lt hk]⟩
theorem upF_off {W j k x:Nat} (h:¬x=W*j+k):¬(x / W=j∧x%W=k):=fun ⟨h1,h2⟩=>h (by
 have:=Nat.div_add_mod x W
 rw [h1,h2] at this;exact this.symm)
theorem upF_next (p:Nat→Nat→Bool) {j k r c:Nat} (h:¬(r=j∧c=k)):upF p j (k+1) r c=upF p j k r c:=by
 unfold upF
 by_cases hr:r=j
 ·have:c<k+1 ↔ c<k:=by
   have:¬c=k:=fun e=>h ⟨hr,e⟩
   omega
  simp [this]
 ·simp [hr]
theorem upF_set {W n j k:Nat} (p:Nat→Nat→Bool) (hk:k<W) (h:p j k=true):arrU n (fun x=>if x=W*j+k then 1 else maskF W (upF p j k) x)=arrU n (maskF W (upF p j (k+1))):=by
 refine arrU_congr fun x _=>?_
 unfold maskF
 by_cases hx:x=W*j+k
 ·obtain ⟨h1,h2⟩:=upF_at hk hx
  rw [if_pos hx,h1,h2]
  simp [upF,h,bit]
 ·rw [if_neg hx,upF_next p (upF_off hx)]
theorem upF_skip {W n j k:Nat} (p:Nat→Nat→Bool) (h:p j k=false):arrU n (maskF W (upF p j k))=arrU n (maskF W (upF p j (k+1))):=by
 refine arrU_congr fun x _=>?_
 unfold maskF
 by_cases hx:x / W=j∧x%W=k
 ·rw [hx.1,hx.2]
  simp [upF,h]
 ·rw [upF_next p hx]
theorem upF_row {W n j:Nat} (hW:0<W) (p:Nat→Nat→Bool):arrU n (maskF W (upF p j W))=arrU n (maskF W (upF p (j+1) 0)):=by
 refine arrU_congr fun x _=>?_
 unfold maskF upF
 have hm:=Nat.mod_lt x hW
 have e:(decide (x / W<j) || (decide (x / W=j)&&decide (x%W<W)))=(decide (x / W<j+1) || (decide (x / W=j+1)&&decide (x%W<0))):=by
  rw [decide_eq_true hm]
  generalize x / W=r
  rcases Nat.lt_trichotomy r j with h|h|h
  ·rw [decide_eq_true h,decide_eq_true (show r<j+1 by omega)];rfl
  ·rw [decide_eq_true h,decide_eq_true (show r<j+1 by omega)];simp
  ·rw [decide_eq_false (show ¬r<j by omega),decide_eq_false (show ¬r=j by omega),decide_eq_false (show ¬r<j+1 by omega)];simp
 rw [e]
theorem upF_all {W H:Nat} (p:Nat→Nat→Bool):(List.range (W*H)).map (maskF W (upF p H 0))=(pixMask W H p).B:=by
 unfold pixMask
 refine List.map_congr_left fun x hx=>?_
 have hx:x<W*H:=by simpa using hx
 have hd:x / W<H:=Nat.div_lt_of_lt_mul hx
 simp [maskF,upF,bit,hd]
set_option maxRecDepth 100000 in
set_option maxHeartbeats 8000000 in
theorem rMask_calls {W H:Nat} (hs:Sides W H) (w:World) (v:Value) (l:List Sg) (hv:SegsAt w v l) (hm:pathMay l=true) (rule:Int) (hr:rule=0∨rule=1) :
  Calls Tryz.prog 38 #[v,.int .i64 rule,.int .i64 W,.int .i64 H] w (MaskOut W H (fun j i=>isIn rule (windG (edgesS l) (16*(i:Int)+8) (16*(j:Int)+8))) w):=by
 have Hv:=Lib.hid hv
 obtain ⟨a,cap,rfl,_⟩:=hv.parts
 clear hv
 obtain ⟨m1,m2,m3⟩:=mask_bounds hs
 have hw0:=hs.w0;have hw1:=hs.w1;have hh0:=hs.h0;have hh1:=hs.h1
 have hf:fairS l rule W H=true:=by
  unfold fairS
  rw [hm,side_nat hs.w0 hs.w1,side_nat hs.h0 hs.h1]
  rcases hr with h|h <;> subst h <;> rfl
 have HF:=Lib.hid (fun w' hv'=>hf▸rFair_calls w' (.slice a l.length cap) l hv' rule W H)
 clear hf hm hr
 have hlen:(edgesS l).length≤1152921504606846976:=Nat.le_trans (edgesS_len l) (by omega)
 have HE:=Lib.hid (fun w' hv=>rEdges_calls w' (.slice a l.length cap) l hv)
 generalize edgesS l=E at *
 have hi:∀ w' ve (j i:Nat),EdgesAt w' ve E→Calls Tryz.prog 81 #[ve,.int .i64 rule,.int .i64 (16*(i:Int)+8),.int .i64 (16*(j:Int)+8)] w' fun r w''=>r=.returned (.bool ((fun j i:Nat=>isIn rule (windG E (16*(i:Int)+8) (16*(j:Int)+8))) j i))∧Below w'.heap.size w' w'':=fun w' ve j i hv=>rIn_calls w' ve E hv hlen rule _ _
 generalize (fun j i:Nat=>isIn rule (windG E (16*(i:Int)+8) (16*(j:Int)+8)))=p at *
 have HI:=Lib.hid hi
 clear hi hlen
 have hL:=Holds.start w
 have hwr:IntKind.i64.wrap ((W:Int)*(H:Int))=(W:Int)*(H:Int):=by rw [IntKind.wrap_i64];omega
 obtain ⟨n1,n2,n3⟩:=tok3
 go_enter Tryz.func38,Tryz.ntmps38
 go_wp2_with (first|(go_at_call 79;(with_reducible refine (HF.out _ (Hv.out.hold hL)).mono ?_);rintro e _ ⟨rfl,hb⟩;replace hL:=hL.call hb;clear hb)|((with_reducible refine wpA_make rfl _ _ _ rfl _ rfl rfl ?_);refine makeU (W*H) (by omega) (by simp) hL ?_)|(go_at_call 80;(with_reducible refine (HE.out _ (Hv.out.hold hL)).mono ?_);rintro e _ ⟨ve,rfl,hb,hf⟩;obtain ⟨ea,ec,rfl,_⟩:=EdgesAt.parts hf.now;replace hL:=hL.callF hb hf;clear hb hf)|(with_reducible first|(clear hL n1;intro b1 w1 hL)|(clear hL n2;intro b2 w2 hL)|(clear hL n3;intro b3 w3 hL)|(clear hL;intro _ hL))|((with_reducible refine goJ rfl ?_);refine goW ?_))
 rw [upF_zero (W:=W) p] at hL
 go_loopw [12] (fun s12 wr=>∃ j:Nat,j≤H∧s12=.int .i64 j∧Holds w wr [blk b3 #[.int .i64 W,.int .i64 H,.slice (some ⟨b2,0,none⟩) (W*H) (W*H)] 86,blk b2 (arrU (W*H) (maskF W (upF p j 0))) 5,blk b1 #[.int .i64 0,.int .i64 0,.slice none 0 0] 86] [fun w=>EdgesAt w (.slice ea E.length ec) E])
  (fun s12 wr=>H-(intOf s12).toNat)
 case atStart=>exact ⟨0,by omega,rfl,hL⟩
 case round =>
  clear hL
  obtain ⟨j,hj,rfl,hL⟩:=hrel
  by_cases hjt:j<H
  ·have hjb:(j:Int)<(H:Int):=by omega
   have hfit:j*W+W≤W*H:=by
    have:=Nat.mul_le_mul_right W (show j+1≤H by omega)
    rw [Nat.add_mul,Nat.mul_comm H W] at this
    omega
   have hjw:(W:Int)*(j:Int)=((W*j:Nat):Int):=by simp
   have hjc:W*j=j*W:=Nat.mul_comm _ _
   have hwj:IntKind.i64.wrap ((W:Int)*(j:Int))=(W:Int)*(j:Int):=by rw [IntKind.wrap_i64];omega
   go_wp2_with (first|(with_reducible (clear hL;intro _ hL))|((with_reducible refine goJ rfl ?_);refine goW ?_))
   go_loopw [13] (fun s13 wq=>∃ k:Nat,k≤W∧s13=.int .i64 k∧Holds w wq [blk b3 #[.int .i64 W,.int .i64 H,.slice (some ⟨b2,0,none⟩) (W*H) (W*H)] 86,blk b2 (arrU (W*H) (maskF W (upF p j k))) 5,blk b1 #[.int .i64 0,.int .i64 0,.slice none 0 0] 86] [fun w=>EdgesAt w (.slice ea E.length ec) E])
    (fun s13 wq=>W-(intOf s13).toNat)
   case atStart=>exact ⟨0,by omega,rfl,hL⟩
   case round =>
    clear hL
    obtain ⟨k,hk,rfl,hL⟩:=hrel
    by_cases hkt:k<W
    ·have hkb:(k:Int)<(W:Int):=by omega
     have hix:((W:Int)*(j:Int)+(k:Int)).toNat=W*j+k:=by omega
     have hi0:0≤(W:Int)*(j:Int)+(k:Int):=by omega
     have hi1:(W:Int)*(j:Int)+(k:Int)<(W:Int)*(H:Int):=by omega
     have hi2:W*j+k<W*H:=by omega
     have hwk:IntKind.i64.wrap ((W:Int)*(j:Int)+(k:Int))=(W:Int)*(j:Int)+(k:Int):=by rw [IntKind.wrap_i64];omega
     have HJW:=Lib.hid hjw
     have HJC:=Lib.hid hjc
     clear hjw hjc
     cases hp:p j k with
     | true =>
      have Hp:=Lib.hid hp
      clear hp
      go_wp2_with (first|(go_at_call 81;(with_reducible refine (HI.out _ _ j k hL.fact0).mono ?_);rintro e _ ⟨rfl,hb⟩;rw [Hp.out];replace hL:=hL.call hb;clear hb)|(with_reducible (clear hL;intro _ hL))|((with_reducible refine goJ rfl ?_);refine goW ?_))
      go_roundw
      case rel =>
       rw [upF_set p hkt Hp.out] at hL
       exact ⟨k+1,by omega,by go_num,hL⟩
      case measure=>simp [intOf];omega
     | false =>
      have Hp:=Lib.hid hp
      clear hp
      go_wp2_with (first|(go_at_call 81;(with_reducible refine (HI.out _ _ j k hL.fact0).mono ?_);rintro e _ ⟨rfl,hb⟩;rw [Hp.out];replace hL:=hL.call hb;clear hb)|(with_reducible (clear hL;intro _ hL))|((with_reducible refine goJ rfl ?_);refine goW ?_))
      go_roundw
      case rel =>
       rw [upF_skip p Hp.out] at hL
       exact ⟨k+1,by omega,by go_num,hL⟩
      case measure=>simp [intOf];omega
    ·have e:k=W:=by omega
     subst e
     rw [upF_row (by omega) p] at hL
     go_wp2_with (first|(with_reducible (clear hL;intro _ hL))|((with_reducible refine goJ rfl ?_);refine goW ?_))
     go_roundw
     case rel=>exact ⟨j+1,by omega,by go_num,hL⟩
     case measure=>simp [intOf];omega
  ·have e:j=H:=by omega
   subst e
   go_wp2_with (first|(with_reducible (clear hL;intro _ hL))|((with_reducible refine goJ rfl ?_);refine goW ?_))
   refine bodyPost_ret (results_row2 inferInstance rfl _ hL b1 rfl _ _ (.there (.there .here)) rfl) rfl ⟨some ⟨b2,0,none⟩,rfl,hL.below,?_⟩
   refine ((hL.settle (.there .here) (φ:=fun w=>w.heap[b2]?=some (.cells (arrU (W*j) (maskF W (upF p j 0))) 5 (0,0))) fun _ h=>h).map fun w' h1=>?_).fresh
   refine ⟨_,rfl,?_⟩
   have:=bytes_of h1 (by unfold maxLen;omega)
   rw [upF_all] at this
   exact this
end Go.Proofs.YtmnoeoecjfhhbaaGreat
