/- Runs, rows and regions. -/
import Derived.Test.YtmnoeoecjfhhbaaGreatRgC
import Derived.Test.YtmnoeoecjfhhbaaGreatBxPM
import Derived.Deep.RegionWith
namespace Go.Proofs.YtmnoeoecjfhhbaaGreat
open Go.RowKit
def RunsF (v:Value) (l:List (Int × Int)) (w:World):Prop:=RunsAt w v l
def RowOut (l:List (Int × Int)) (w:World) (e:Ending) (w':World):Prop :=
 ∃ sa sn sc,e=.returned (.slice sa sn sc)∧Below w.heap.size w w'∧Fresh w w' (RunsF (.slice sa sn sc) l)
theorem RowOut.of {l l':List (Int × Int)} {w:World} {e:Ending} {w':World} (h:RunsOut l w e w') (hl:l=l'):RowOut l' w e w':=by
 subst hl
 obtain ⟨v,rfl,hb,hf⟩:=h
 obtain ⟨sa,sn,sc,rfl⟩:=SliceAt.shape hf.now
 exact ⟨sa,sn,sc,rfl,hb,hf⟩
section
variable {W : Nat} (hW : W ≤ 64)
include hW
end
theorem regRow {w:World} {W H:Nat} {q:Nat→Nat→Bool} {sa:Option Addr} {sn sc:Nat} (h:RegAt w (.agg #[.int .i64 W,.int .i64 H,.slice sa sn sc]) (pixReg W H q)) :
  sn=H∧∀ y,y<H→∃ b o va vn vc,sa=some ⟨b,o,none⟩∧w.cell? ⟨b,o+y,none⟩=some (.slice va vn vc)∧RunsAt w (.slice va vn vc) (runsTo (q y) W):=by
 obtain ⟨s,hv,hs⟩:=h
 simp at hv
 obtain ⟨_,_,rfl⟩:=hv
 obtain ⟨a,cap,e,_,_,he⟩:=hs.parts
 have hl:(pixReg W H q).rows.length=H:=by simp [pixReg]
 rw [hl] at e he
 simp at e
 obtain ⟨rfl,rfl,rfl⟩:=e
 refine ⟨rfl,fun y hy=>?_⟩
 obtain ⟨b,o,rfl,va,vn,vc,hc,hr⟩:=he y hy
 rw [pix_row q hy] at hr
 exact ⟨b,o,va,vn,vc,rfl,hc,hr⟩
def PixOutH (W H:Nat) (q:Nat→Nat→Bool) (w:World) (e:Ending) (w':World):Prop :=
 ∃ sa sc,e=.returned (.tuple #[.agg #[.int .i64 W,.int .i64 H,.slice sa H sc],.int .i64 0])∧Below w.heap.size w w'∧Fresh w w' (RegF (.agg #[.int .i64 W,.int .i64 H,.slice sa H sc]) (pixReg W H q))
theorem PixOut.len {W H:Nat} {q:Nat→Nat→Bool} {w:World} {e:Ending} {w':World} (h:PixOut W H q w e w'):PixOutH W H q w e w':=by
 obtain ⟨sa,sn,sc,rfl,hb,hf⟩:=h
 obtain ⟨rfl,_⟩:=regRow hf.now
 exact ⟨sa,sc,rfl,hb,hf⟩
theorem mayFrom_bounds {w:Int}:∀ (l:List (Int × Int)) (at_:Int),mayFrom at_ w l=true→∀ k,k<l.length→at_<(l.getD k (0,0)).1∧(l.getD k (0,0)).1<(l.getD k (0,0)).2∧(l.getD k (0,0)).2≤w
 | [],_,_,k,hk=>by simp at hk
 | r::l,at_,h,0,_=>by
  simp [mayFrom] at h
  exact ⟨h.1,h.2.1,h.2.2.1⟩
 | r::l,at_,h,k+1,hk=>by
  simp [mayFrom] at h
  have:=mayFrom_bounds l r.2 h.2.2.2 k (by simpa using hk)
  simp only [List.getD_cons_succ]
  omega
def ofRow (q:Nat→Bool) (n:Nat):List (Int × Int):=(List.range n).map fun (i:Nat)=>((i:Int),(i:Int)+bit (q i))
theorem ofRow_succ (q:Nat→Bool) (n:Nat):ofRow q (n+1)=ofRow q n++[((n:Int),(n:Int)+bit (q n))]:=by
 simp [ofRow,List.range_succ]
theorem inRuns_ofRow (q:Nat→Bool):∀ (n:Nat),n≤64→∀ i,inRuns (ofRow q n) i=(decide (i<n)&&q i)
 | 0,_,i=>by simp [ofRow,inRuns]
 | n+1,hn,i=>by
  rw [ofRow_succ,inRuns_append,inRuns_ofRow q n (by omega) i]
  have e:inRuns [((n:Int),(n:Int)+bit (q n))] i=(decide (i=n)&&q n):=by
   simp only [inRuns,List.any_cons,List.any_nil,Bool.or_false,inRun,bit]
   rw [Bool.eq_iff_iff]
   cases q n <;> simp <;> omega
  rw [e]
  by_cases h:i=n
  ·subst h;simp
  ·have:i<n+1 ↔ i<n:=by omega
   simp [h,this]
set_option maxRecDepth 100000 in
set_option maxHeartbeats 1000000 in
theorem ofRow_calls {W H:Nat} (hs:Sides W H) (w:World) (j bx:Nat) (ma:Option Addr) (q:Nat→Nat→Bool) (h0:w.cell? ⟨bx,0,none⟩=some (.int .i64 W)) (h2:w.cell? ⟨bx,2,none⟩=some (.slice ma (W*H) (W*H)))
  (hB:BytesAt w (.slice ma (W*H) (W*H)) (pixMask W H q).B) (hj:j<H) :
  Calls Tryz.prog 199 #[.int .i64 j,.pointer (some ⟨bx,0,none⟩)] w (RunsRet (ofRow (q j) W) w):=by
 obtain ⟨a',cap',he,_,_,hel⟩:=hB.parts
 rw [pixMask_len] at he hel
 cases he
 obtain ⟨hw0,hw1,hh0,hh1⟩:=id hs
 obtain ⟨b,o,rfl,_⟩:=hel (j*W+0) (idx_lt hj (by omega))
 have Hc:=Lib.hid (show ∀ i,i<W→w.cell? ⟨b,o+j*W+i,none⟩=some (.int .u8 (bit (q j i))) from fun i hi=>by
  obtain ⟨b',o',e,hc⟩:=hel (j*W+i) (idx_lt hj hi)
  cases e
  rw [pixMask_get q hj hi] at hc
  rw [Nat.add_assoc];exact hc)
 clear hel hB
 have g0:0≤(j:Int)*(W:Int):=Int.mul_nonneg (by omega) (by omega)
 have g1:(j:Int)*(W:Int)≤4096:=by
  have:=Nat.mul_le_mul (show j≤64 by omega) hw1
  have h:((j*W:Nat):Int)≤4096:=by omega
  simpa using h
 have g2:((j:Int)+1)*(W:Int)=(j:Int)*(W:Int)+(W:Int):=by rw [Int.add_mul,Int.one_mul]
 have g3:(j:Int)*(W:Int)+(W:Int)≤((W*H:Nat):Int):=by
  have:=Nat.mul_le_mul_right W (show j+1≤H by omega)
  rw [Nat.add_mul,Nat.mul_comm H W,Nat.one_mul] at this
  have h:((j*W+W:Nat):Int)≤((W*H:Nat):Int):=by omega
  simpa using h
 have hL:=Holds.start w
 obtain ⟨n1,n2⟩:=tok2
 go_enter Tryz.func199,Tryz.ntmps199
 go_wp2_with (first|(with_reducible first|(clear hL;intro _ _ _ hL;try dsimp only at hL)|(clear hL n1;intro b1 w1 hL))|((with_reducible refine wpA_lit rfl _ _ _ rfl ?_);first|refine litA1 hL ?_|refine litA2 hL ?_)|((with_reducible refine goJ rfl ?_);refine goW ?_))
 simp only [Nat.add_sub_cancel_left]
 go_loopw [4,20] (fun s4 s20 wr=>∃ i:Nat,i≤W∧s20=.int .i64 i∧Holds w wr [own w.heap.size 124 2 s4 (ofRow (q j) i).length ((ofRow (q j) i).map runC).flatten] [])
  (fun s4 s20 wr=>(64-intOf s20).toNat)
 case atStart=>exact ⟨0,by omega,rfl,hL.newOwn⟩
 case round =>
  clear hL
  obtain ⟨i,hi,rfl,hL⟩:=hrel
  by_cases hit:i<W
  ·have hc:=Hc.out i hit
   have Hr:=Lib.hid (ofRow_succ (q j) i)
   have hlen:(ofRow (q j) i).length=i:=by simp [ofRow]
   rw [hlen] at hL
   have Hlen:=Lib.hid hlen;clear hlen
   generalize hl:ofRow (q j) i=l at *
   have Hlr:=Lib.hid hl;clear hl
   generalize q j i=bq at *
   cases bq
   all_goals
    simp only [bit,if_true,Bool.false_eq_true,if_false] at hc Hr
    go_wp2_with (first|(with_reducible first|(clear hL;intro _ _ _ hL;try dsimp only at hL)|(clear hL n1;intro b1 w1 hL))|((with_reducible refine wpA_lit rfl _ _ _ rfl ?_);first|refine litA1 hL ?_|refine litA2 hL ?_)|((with_reducible refine goJ rfl ?_);refine goW ?_))
    go_roundw
    case rel =>
     refine ⟨i+1,by omega,by go_num,?_⟩
     rw [Hr.out]
     simp only [List.length_append,List.map_append,List.flatten_append,List.length_cons,List.length_nil,Hlen.out]
     exact hL
    case measure=>simp [intOf];omega
  ·have e:i=W:=by omega
   subst e
   go_wp2_with (first|(with_reducible first|(clear hL;intro _ _ _ hL;try dsimp only at hL)|(clear hL n1;intro b1 w1 hL))|((with_reducible refine wpA_lit rfl _ _ _ rfl ?_);first|refine litA1 hL ?_|refine litA2 hL ?_)|((with_reducible refine goJ rfl ?_);refine goW ?_))
   go_ret
   obtain ⟨v,hv,hb,hf⟩:=hL.sliceOut .here (by simp) rfl (runC_len _)
   exact ⟨v,hv,hb,hf.now⟩
theorem ofRow_pix {W H:Nat} (hs:Sides W H) (q:Nat→Nat→Bool):madeReg W H (fun j=>ofRow (q j) W)=pixReg W H q :=
 made_pix hs.w0 hs.w1 hs.h0 hs.h1 fun j _ i hi=>by rw [inRuns_ofRow _ _ hs.w1];simp [hi]
set_option maxHeartbeats 1000000 in
theorem pixOf_calls {W H:Nat} (hs:Sides W H) (w:World) (ma:Option Addr) (q:Nat→Nat→Bool) (h:MaskAt w (.agg #[.int .i64 W,.int .i64 H,.slice ma (W*H) (W*H)]) (pixMask W H q)) :
  Calls Tryz.prog 191 #[.agg #[.int .i64 W,.int .i64 H,.slice ma (W*H) (W*H)]] w (PixOut W H q w):=by
 have Hm:=Lib.hid h
 obtain ⟨s,hv,hB⟩:=h
 simp at hv
 obtain ⟨e1,e2,rfl⟩:=hv
 clear e1 e2
 have HB:=Lib.hid hB;clear hB
 have Hmay:=Lib.hid (mask_may hs q)
 have hL:=Holds.start w
 obtain ⟨n1,n2,n3⟩:=tok3
 go_enter Tryz.func191,Tryz.ntmps191
 go_wp2_with (first|(go_at_call 198;(with_reducible refine (coverMay_calls _ _ _ (Hm.out.hold hL)).mono ?_);rintro e _ ⟨rfl,hb⟩;rw [Hmay.out];replace hL:=hL.call hb;clear hb)|(with_reducible first|(clear hL n1;intro b1 w1 hL)|(clear hL n2;intro b2 w2 hL))|((with_reducible refine goJ rfl ?_);refine goW ?_))
 have c0:=hL.cell (o:=0) (.there .here)
 have c2:=hL.cell (o:=2) (.there .here)
 simp only [List.getElem?_toArray,List.getElem?_cons_zero,List.getElem?_cons_succ] at c0 c2
 refine (regMade_calls _ _ _ _ _ (fun j=>ofRow (q j) W) (fun j=>#[.int .i64 j,.pointer (some ⟨b1,0,none⟩)]) (fun j=>rfl) (fun j hj w1 hb1=>?_) (fun j w=>?_)).mono ?_
 ·exact ofRow_calls hs w1 j b1 ma q (cell_later hb1 c0) (cell_later hb1 c2) (SliceAt.below HB.out (Below.from hL hb1)) (by omega)
 ·kernel_rfl
 rintro e _ ⟨v,rfl,hb,hf⟩
 rw [ofRow_pix hs] at hf
 rw [madeErr_pix hs.w0 hs.w1 hs.h0 hs.h1]
 obtain ⟨sa,sn,sc,rfl,_⟩:=RegAt.shape hf.now
 replace hL:=hL.callF hb hf
 clear hb hf c0 c2
 go_wp2_with (first|(with_reducible (clear hL;intro _ hL))|((with_reducible refine goJ rfl ?_);refine goW ?_))
 exact bodyPost_ret (results_row2 inferInstance rfl _ hL b2 rfl _ _ .here rfl) rfl ⟨sa,sn,sc,rfl,hL.below,hL.fresh⟩
end Go.Proofs.YtmnoeoecjfhhbaaGreat
