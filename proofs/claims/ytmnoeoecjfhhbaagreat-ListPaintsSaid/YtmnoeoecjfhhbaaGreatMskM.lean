/- Package cover: Has, of masks that are said pixel by pixel; a literal of five; Mask with given sides. -/
import Derived.Test.YtmnoeoecjfhhbaaGreatMkdM
import Derived.Deep.RegionWith
import Derived.Deep.RegionHeld3
import Derived.Laws.BytesArg
import Derived.Test.YtmnoeoecjfhhbaaGreatTrnM
import Derived.Laws.CopyOwn
namespace Go.Proofs.YtmnoeoecjfhhbaaGreat
open Go.RowKit
structure Sides (W H:Nat):Prop where
 w0:1≤W
 w1:W≤64
 h0:1≤H
 h1:H≤64
def FactAt (Φ:List (World→Prop)) (φ:World→Prop):Prop:=φ∈Φ
theorem FactAt.here {Φ:List (World→Prop)} {φ:World→Prop}:FactAt (φ::Φ) φ:=List.mem_cons_self
theorem FactAt.there {Φ:List (World→Prop)} {φ ψ:World→Prop} (h:FactAt Φ φ):FactAt (ψ::Φ) φ:=List.mem_cons_of_mem _ h
theorem mul_le100 {x y:Int} (h1:0≤x) (h2:x≤100) (h3:0≤y) (h4:y≤100):0≤x*y∧x*y≤10000 :=
 ⟨Int.mul_nonneg h1 h3,by have:=Int.mul_le_mul h2 h4 h3 (by omega:(0:Int)≤100);omega⟩
def isSide (n:Int):Bool:=decide (1≤n)&&decide (n≤64)
theorem side_nat {W:Nat} (h0:1≤W) (h1:W≤64):isSide (W:Int)=true:=by
 simp [isSide];omega
theorem all_take_step {α:Type} (p:α→Bool) (l:List α) (k:Nat) (d:α) (h:k<l.length):(l.take (k+1)).all p=((l.take k).all p&&p (l.getD k d)):=by
 rw [List.take_succ_eq_append_getElem h,List.all_append]
 simp [h]
theorem all_take_false {α:Type} (p:α→Bool) (l:List α) (k:Nat) (h:(l.take k).all p=false):l.all p=false:=by
 rw [←List.take_append_drop k l,List.all_append,h];rfl
def arrU (n:Nat) (p:Nat→Int):Array Value:=((List.range n).map (fun i=>Value.int .u8 (p i))).toArray
theorem arrU_size (n:Nat) (p:Nat→Int):(arrU n p).size=n:=by simp [arrU]
theorem arrU_get {n:Nat} (p:Nat→Int) {i:Nat} (h:i<n):(arrU n p)[i]?=some (.int .u8 (p i)):=by
 simp [arrU,h]
theorem arrU_set {n:Nat} (p:Nat→Int) (b:Int) {i:Nat} (h:i<n):(arrU n p).setIfInBounds i (.int .u8 b)=arrU n (fun j=>if j=i then b else p j):=by
 apply Array.ext_getElem?
 intro j
 rw [Array.getElem?_setIfInBounds]
 by_cases hj:i=j
 ·subst hj;rw [if_pos rfl,if_pos (by rw [arrU_size];exact h),arrU_get _ h];simp
 ·rw [if_neg hj]
  by_cases h64:j<n
  ·rw [arrU_get _ h64,arrU_get _ h64,if_neg (fun e=>hj e.symm)]
  ·rw [Array.getElem?_eq_none (by rw [arrU_size];omega),Array.getElem?_eq_none (by rw [arrU_size];omega)]
theorem arrU_congr {n:Nat} {p q:Nat→Int} (h:∀ i,i<n→p i=q i):arrU n p=arrU n q:=by
 apply Array.ext_getElem?
 intro j
 by_cases h64:j<n
 ·rw [arrU_get _ h64,arrU_get _ h64,h j h64]
 ·rw [Array.getElem?_eq_none (by rw [arrU_size];omega),Array.getElem?_eq_none (by rw [arrU_size];omega)]
theorem arrU_one (n:Nat) (p:Nat→Int):(arrU n p).all (·.oneCell')=true:=by
 rw [Array.all_eq_true_iff_forall_mem]
 intro v hv
 simp [arrU] at hv
 obtain ⟨i,_,rfl⟩:=hv
 rfl
theorem arrU_zero (n:Nat):(List.replicate n (Value.int .u8 0)).toArray=arrU n (fun _=>0):=by
 apply Array.ext_getElem?
 intro j
 by_cases h:j<n
 ·rw [arrU_get _ h];simp [h]
 ·rw [Array.getElem?_eq_none (by simp;omega),Array.getElem?_eq_none (by rw [arrU_size];omega)]
attribute [irreducible] arrU
structure Msk where
 W:Int
 H:Int
 B:List Int
def BytesAt (w:World) (v:Value) (l:List Int):Prop:=SliceAt w 1 v (l.map fun n=>[.int .u8 n])
def MaskAt (w:World) (v:Value) (m:Msk):Prop:=∃ s,v=.agg #[.int .i64 m.W,.int .i64 m.H,s]∧BytesAt w s m.B
theorem BytesAt.parts {w:World} {s:Value} {l:List Int} (h:BytesAt w s l) :
  ∃ a cap,s=.slice a l.length cap∧l.length≤cap∧cap≤maxLen∧∀ i,i<l.length→∃ b o,a=some ⟨b,o,none⟩∧w.cell? ⟨b,o+i,none⟩=some (.int .u8 (l.getD i 0)):=by
 obtain ⟨a,cap,h2,h3,h4,h5⟩:=h
 simp only [List.length_map] at h2 h3 h5
 refine ⟨a,cap,h2,h3,h4,fun i hi=>?_⟩
 obtain ⟨b,o,e,hr⟩:=h5 i hi
 refine ⟨b,o,e,?_⟩
 have:=hr 0 (.int .u8 (l.getD i 0)) (by simp [hi])
 simpa using this
theorem MaskAt.below {w w':World} {v:Value} {m:Msk} (h:MaskAt w v m) (hb:Below w.heap.size w w'):MaskAt w' v m:=by
 obtain ⟨s,h1,h2⟩:=h;exact ⟨s,h1,SliceAt.below h2 hb⟩
theorem MaskAt.hold {w0 w:World} {M:List Res} {Φ:List (World→Prop)} {v:Value} {m:Msk} (h:MaskAt w0 v m) (hL:Holds w0 w M Φ):MaskAt w v m:=h.below hL.below
theorem MaskAt.shape {w:World} {v:Value} {m:Msk} (h:MaskAt w v m):∃ sa sc,v=.agg #[.int .i64 m.W,.int .i64 m.H,.slice sa m.B.length sc]∧m.B.length≤sc∧sc≤maxLen∧BytesAt w (.slice sa m.B.length sc) m.B:=by
 obtain ⟨s,rfl,h2⟩:=h
 obtain ⟨a,cap,rfl,h3,h4,_⟩:=h2.parts
 exact ⟨a,cap,rfl,h3,h4,h2⟩
def mayMask (m:Msk):Bool:=isSide m.W&&(isSide m.H&&(decide ((m.B.length:Int)=m.W*m.H)&&m.B.all fun b=>decide (b≤1)))
theorem coverSide_calls (a:Int) (w:World) :
  Calls Tryz.prog 210 #[.int .i64 a] w fun e w'=>e=.returned (.bool (isSide a))∧w=w':=by
 rcases (by omega:(1≤a∧a≤64)∨¬1≤a∨(1≤a∧¬a≤64)) with ⟨h1,h2⟩|h1|⟨h1,h2⟩
 ·have Hr:=Lib.hid (show isSide a=true by simp [isSide,h1,h2])
  go_enter Tryz.func210,Tryz.ntmps210
  go_wp2
  go_ret
  exact ⟨ret_bool (by rw [Hr.out]),rfl⟩
 ·have Hr:=Lib.hid (show isSide a=false by simp [isSide,h1])
  go_enter Tryz.func210,Tryz.ntmps210
  go_wp2
  go_ret
  exact ⟨ret_bool (by rw [Hr.out]),rfl⟩
 ·have Hr:=Lib.hid (show isSide a=false by simp [isSide,h2])
  go_enter Tryz.func210,Tryz.ntmps210
  go_wp2
  go_ret
  exact ⟨ret_bool (by rw [Hr.out]),rfl⟩
theorem side_mul {W H:Int} (h1:isSide W=true) (h2:isSide H=true):1≤W∧W≤64∧1≤H∧H≤64∧0≤W*H∧W*H≤10000:=by
 simp [isSide] at h1 h2
 obtain ⟨a,b⟩:=mul_le100 (x:=W) (y:=H) (by omega) (by omega) (by omega) (by omega)
 exact ⟨h1.1,h1.2,h2.1,h2.2,a,b⟩
set_option maxRecDepth 100000 in
set_option maxHeartbeats 1000000 in
theorem coverMay_calls (w:World) (v:Value) (m:Msk) (hv:MaskAt w v m) :
  Calls Tryz.prog 198 #[v] w fun e w'=>e=.returned (.bool (mayMask m))∧Below w.heap.size w w':=by
 obtain ⟨a,cap,rfl,hlc,hcm,hB⟩:=hv.shape
 obtain ⟨a',cap',he,_,_,hel⟩:=hB.parts
 cases he
 clear hB hv
 obtain ⟨W,H,B⟩:=m
 simp only at hlc hel ⊢
 unfold maxLen at hcm
 have Hel:=Lib.hid hel;clear hel
 have hL:=Holds.start w
 cases h1:isSide W with
 | false =>
  have Hr:=Lib.hid (show mayMask ⟨W,H,B⟩=false by simp [mayMask,h1])
  obtain ⟨n1,n2⟩:=tok2
  go_enter Tryz.func198,Tryz.ntmps198
  go_wp2_with (first|(go_at_call 210;(with_reducible refine (coverSide_calls _ _).mono ?_);rintro e _ ⟨rfl,rfl⟩)|(with_reducible (clear hL n1;intro b1 w1 hL))|((with_reducible refine goJ rfl ?_);refine goW ?_))
  go_ret
  exact ⟨ret_bool (by rw [Hr.out]),hL.below⟩
 | true =>
  cases h2:isSide H with
  | false =>
   have Hr:=Lib.hid (show mayMask ⟨W,H,B⟩=false by simp [mayMask,h2])
   obtain ⟨n1,n2⟩:=tok2
   go_enter Tryz.func198,Tryz.ntmps198
   go_wp2_with (first|(go_at_call 210;(with_reducible refine (coverSide_calls _ _).mono ?_);rintro e _ ⟨rfl,rfl⟩)|(with_reducible (clear hL n1;intro b1 w1 hL))|((with_reducible refine goJ rfl ?_);refine goW ?_))
   go_ret
   exact ⟨ret_bool (by rw [Hr.out]),hL.below⟩
  | true =>
   obtain ⟨s1,s2,s3,s4,s5,s6⟩:=side_mul h1 h2
   cases h3:((B.length:Int) != W*H) with
   | true =>
    have Hr:=Lib.hid (show mayMask ⟨W,H,B⟩=false by simp at h3;simp [mayMask,h3])
    obtain ⟨n1,n2⟩:=tok2
    go_enter Tryz.func198,Tryz.ntmps198
    go_wp2_with (first|(go_at_call 210;(with_reducible refine (coverSide_calls _ _).mono ?_);rintro e _ ⟨rfl,rfl⟩)|(with_reducible (clear hL n1;intro b1 w1 hL))|((with_reducible refine goJ rfl ?_);refine goW ?_))
    go_ret
    exact ⟨ret_bool (by rw [Hr.out]),hL.below⟩
   | false =>
    have Hr:=Lib.hid (show mayMask ⟨W,H,B⟩=B.all fun b=>decide (b≤1) by simp at h3;simp [mayMask,h1,h2,h3])
    obtain ⟨n1,n2⟩:=tok2
    go_enter Tryz.func198,Tryz.ntmps198
    go_wp2_with (first|(go_at_call 210;(with_reducible refine (coverSide_calls _ _).mono ?_);rintro e _ ⟨rfl,rfl⟩)|(with_reducible (clear hL n1;intro b1 w1 hL))|((with_reducible refine goJ rfl ?_);refine goW ?_))
    go_loopw [29] (fun s29 wr=>∃ k:Nat,k≤B.length∧s29=.int .i64 k∧((B.take k).all fun b=>decide (b≤1))=true∧Holds w wr [blk b1 #[.int .i64 W,.int .i64 H,.slice a B.length cap] 86] [])
     (fun s29 wr=>B.length-(intOf s29).toNat)
    case atStart=>exact ⟨0,by omega,rfl,rfl,hL⟩
    case round =>
     clear hL
     obtain ⟨k,hk,rfl,hm,hL⟩:=hrel
     by_cases hlt:k<B.length
     ·obtain ⟨b,o,rfl,hc⟩:=Hel.out k hlt
      have Hs:=Lib.hid (all_take_step (fun b=>decide (b≤1)) B k 0 hlt)
      rw [hm] at Hs
      have Hf:=Lib.hid (all_take_false (fun b=>decide (b≤1)) B (k+1))
      clear hm
      generalize B.getD k 0=x at *
      by_cases hx:x≤1
      ·have hx2:decide (1<x)=false:=by simp;omega
       go_wp2_with ((with_reducible refine goJ rfl ?_);refine goW ?_)
       go_roundw
       case rel=>exact ⟨k+1,by omega,by go_num,by rw [Hs.out];simp [hx],hL⟩
       case measure=>simp [intOf];omega
      ·have hx2:decide (1<x)=true:=by simp;omega
       go_wp2_with ((with_reducible refine goJ rfl ?_);refine goW ?_)
       go_ret
       exact ⟨ret_bool (by rw [Hr.out,Hf.out (by rw [Hs.out];simp [hx])]),hL.below⟩
     ·have e:k=B.length:=by omega
      subst e
      rw [List.take_length] at hm
      have Hm:=Lib.hid hm;clear hm
      go_wp2_with ((with_reducible refine goJ rfl ?_);refine goW ?_)
      go_ret
      exact ⟨ret_bool (by rw [Hr.out,Hm.out]),hL.below⟩
def pixMask (W H:Nat) (q:Nat→Nat→Bool):Msk:=⟨W,H,(List.range (W*H)).map fun k=>if q (k / W) (k%W) then 1 else 0⟩
theorem run_makeU {n:Nat} (hn:n≤10000) {L:Int} (hL:L=(n:Int)) (w:World) :
  (Instr.makeSlice 51 (.int .i64 L) (.int .i64 L)).run Tryz.prog w=.ok (.slice (some ⟨w.heap.size,0,none⟩) n n) (w.alloc (.cells (arrU n fun _=>0) 5)):=by
 have hS:SliceT Tryz.prog 51 5:=inferInstance
 have hE:ElemT Tryz.prog 5 1 1 (.int .u8 0):=inferInstance
 obtain ⟨i,hi1,hi2,hi3,hi4⟩:=info_parts hE.info
 subst hL
 have hb':(i.bytes:Int)*(n:Int)≤281474976710656:=by rw [hi4];omega
 have hrun:=run_make (P:=Tryz.prog) w _ _ i _ hS.out hi1 hi2 .i64 .i64 (n:Int) (n:Int) (by omega) (Int.le_refl _) hb' (by omega)
 simp only [Int.toNat_natCast,hi3,Nat.mul_one,Value.cells,madeCells_one,arrU_zero] at hrun
 exact hrun
theorem divmod_eq {W i j x:Nat} (hi:i<W):x=j*W+i ↔ x / W=j∧x%W=i:=by
 constructor
 ·rintro rfl
  rw [Nat.mul_comm,Nat.mul_add_div (by omega),Nat.mul_add_mod,Nat.div_eq_of_lt hi,Nat.mod_eq_of_lt hi]
  exact ⟨by omega,rfl⟩
 ·rintro ⟨h1,h2⟩
  have:=Nat.div_add_mod x W
  rw [h1,h2,Nat.mul_comm] at this
  exact this.symm
theorem bytes_of {w:World} {b n:Nat} {f:Nat→Int} {T:TypeId} (hb:w.heap[b]?=some (.cells (arrU n f) T (0,0))) (hm:n≤maxLen):BytesAt w (.slice (some ⟨b,0,none⟩) n n) ((List.range n).map f):=by
 refine ⟨_,n,by simp,by simp,hm,fun i hi=>⟨b,0,rfl,fun j v hj=>?_⟩⟩
 simp at hi
 rcases j with _|j
 ·rw [cell_of_row w b _ (arrU n f) T (0,0) hb]
  simp at hj
  simp only [Nat.zero_add,Nat.mul_one,Nat.add_zero]
  rw [arrU_get _ hi,hj]
 ·simp at hj
def bit (b:Bool):Int:=if b then 1 else 0
theorem pixMask_len (W H:Nat) (q:Nat→Nat→Bool):(pixMask W H q).B.length=W*H:=by simp [pixMask]
theorem idx_lt {W H j i:Nat} (hj:j<H) (hi:i<W):j*W+i<W*H:=by
 have:=Nat.mul_le_mul_right W (show j+1≤H by omega)
 rw [Nat.add_mul,Nat.mul_comm H W] at this
 omega
theorem pixMask_get {W H j i:Nat} (q:Nat→Nat→Bool) (hj:j<H) (hi:i<W):(pixMask W H q).B.getD (j*W+i) 0=bit (q j i):=by
 have h:=idx_lt hj hi
 obtain ⟨h1,h2⟩:=(divmod_eq (W:=W) (i:=i) (j:=j) (x:=j*W+i) hi).1 rfl
 simp [pixMask,h,h1,h2,bit]
theorem mask_may {W H:Nat} (hs:Sides W H) (q:Nat→Nat→Bool):mayMask (pixMask W H q)=true:=by
 simp only [mayMask,pixMask,side_nat hs.w0 hs.w1,side_nat hs.h0 hs.h1,Bool.true_and,Bool.and_eq_true]
 refine ⟨by simp,?_⟩
 simp only [List.all_eq_true,List.mem_map]
 rintro l ⟨j,_,rfl⟩
 split <;> simp
open Go.RowKit
def MaskF (v:Value) (m:Msk) (w:World):Prop:=MaskAt w v m
theorem MaskAt.bytes {w:World} {W H:Nat} {ma:Option Addr} {q:Nat→Nat→Bool} (h:MaskAt w (.agg #[.int .i64 W,.int .i64 H,.slice ma (W*H) (W*H)]) (pixMask W H q)):BytesAt w (.slice ma (W*H) (W*H)) (pixMask W H q).B:=by
 obtain ⟨s,hv,hB⟩:=h
 simp at hv
 obtain ⟨_,_,rfl⟩:=hv
 exact hB
theorem mask_bounds {W H:Nat} (hs:Sides W H):1≤W*H∧W*H≤4096∧((W*H:Nat):Int)=(W:Int)*(H:Int) :=
 ⟨Nat.mul_pos hs.w0 hs.h0,Nat.mul_le_mul hs.w1 hs.h1,by simp⟩
theorem pixMask_congr {W H:Nat} {p q:Nat→Nat→Bool} (hs:Sides W H) (h:∀ j,j<H→∀ i,i<W→p j i=q j i):pixMask W H p=pixMask W H q:=by
 unfold pixMask
 congr 1
 refine List.map_congr_left fun x hx=>?_
 have hx:x<W*H:=by simpa using hx
 rw [h _ (Nat.div_lt_of_lt_mul hx) _ (Nat.mod_lt _ hs.w0)]
theorem BytesAt.hold {w0 w:World} {M:List Res} {Φ:List (World→Prop)} {v:Value} {l:List Int} (h:BytesAt w0 v l) (hL:Holds w0 w M Φ):BytesAt w v l:=SliceAt.below h hL.below
def MaskOut (W H:Nat) (q:Nat→Nat→Bool) (w:World) (e:Ending) (w':World):Prop :=
 ∃ ma,e=.returned (.tuple #[.agg #[.int .i64 W,.int .i64 H,.slice ma (W*H) (W*H)],.int .i64 0])∧Below w.heap.size w w'∧Fresh w w' (MaskF (.agg #[.int .i64 W,.int .i64 H,.slice ma (W*H) (W*H)]) (pixMask W H q))
open Go.RowKit
theorem makeU {w0 w:World} {M:List Res} {Φ:List (World→Prop)} {K2:Value→World→Prop} {L:Int} (n:Nat) (hn:n≤10000) (hLn:L=(n:Int)) (hL:Holds w0 w M Φ)
  (h:∀ b w',Holds w0 w' (blk b (arrU n fun _=>0) 5::M) Φ→K2 (.slice (some ⟨b,0,none⟩) n n) w'):MakeAt Tryz.prog 51 L w K2 :=
 ⟨_,_,run_makeU hn hLn w,h _ _ (hL.alloc _ _)⟩
def maskF (W:Nat) (P:Nat→Nat→Bool) (k:Nat):Int:=bit (P (k / W) (k%W))
def rowsF (p:Nat→Nat→Bool) (j:Nat) (r c:Nat):Bool:=decide (r<j)&&p r c
def partF (q:Nat→Bool) (k:Nat) (i:Nat):Int:=if i<k then bit (q i) else 0
theorem partF_set (q:Nat→Bool) (n k:Nat) (h:q k=true):arrU n (fun i=>if i=k then 1 else partF q k i)=arrU n (partF q (k+1)):=by
 refine arrU_congr fun i _=>?_
 unfold partF
 by_cases hi:i=k
 ·subst hi;simp [h,bit]
 ·have:i<k+1 ↔ i<k:=by omega
  simp [hi,this]
theorem partF_skip (q:Nat→Bool) (n k:Nat) (h:q k=false):arrU n (partF q k)=arrU n (partF q (k+1)):=by
 refine arrU_congr fun i _=>?_
 unfold partF
 by_cases hi:i=k
 ·subst hi;simp [h,bit]
 ·have:i<k+1 ↔ i<k:=by omega
  simp [this]
theorem arrU_at {n:Nat} {f:Nat→Int} {i:Nat} (h:i<n):(arrU n f).toList[i]?=some (.int .u8 (f i)):=by
 rw [Array.getElem?_toList,arrU_get _ h]
theorem copy_arrU {n W o:Nat} (f g:Nat→Int) (h:o+W≤n):((arrU n f).toList.take o++((arrU W g).toList++(arrU n f).toList.drop (o+(arrU W g).toList.length))).toArray=arrU n (fun x=>if o≤x∧x<o+W then g (x-o) else f x):=by
 have l1:(arrU n f).toList.length=n:=by rw [Array.length_toList,arrU_size]
 have l2:(arrU W g).toList.length=W:=by rw [Array.length_toList,arrU_size]
 apply Array.ext_getElem?
 intro i
 rw [List.getElem?_toArray]
 by_cases hi:i<n
 ·rw [arrU_get _ hi]
  by_cases h1:i<o
  ·rw [List.getElem?_append_left (by rw [List.length_take,l1];omega),List.getElem?_take,if_pos h1,arrU_at hi,if_neg (by omega)]
  ·rw [List.getElem?_append_right (by rw [List.length_take,l1];omega),List.length_take,l1,Nat.min_eq_left (by omega)]
   by_cases h2:i<o+W
   ·rw [List.getElem?_append_left (by rw [l2];omega),arrU_at (by omega),if_pos ⟨by omega,h2⟩]
   ·rw [List.getElem?_append_right (by rw [l2];omega),l2,List.getElem?_drop,show o+W+(i-o-W)=i by omega,arrU_at hi,if_neg (by omega)]
 ·rw [List.getElem?_eq_none (by simp only [List.length_append,List.length_take,List.length_drop,l1,l2];omega),Array.getElem?_eq_none (by rw [arrU_size];omega)]
theorem maskF_row {W n j:Nat} (hW:0<W) (p:Nat→Nat→Bool) (_:j*W+W≤n):arrU n (fun x=>if j*W≤x∧x<j*W+W then partF (p j) W (x-j*W) else maskF W (rowsF p j) x)=arrU n (maskF W (rowsF p (j+1))):=by
 refine arrU_congr fun x hx=>?_
 unfold maskF rowsF partF
 by_cases h1:j*W≤x∧x<j*W+W
 ·obtain ⟨h2,h3⟩:=(divmod_eq (W:=W) (i:=x-j*W) (j:=j) (x:=x) (by omega)).1 (by omega)
  rw [if_pos h1,if_pos (by omega),h2,h3]
  simp
 ·rw [if_neg h1]
  have:¬x / W=j:=by
   intro e
   have hd:=Nat.div_add_mod x W
   have hmod:=Nat.mod_lt x hW
   rw [e,Nat.mul_comm] at hd
   exact h1 ⟨by omega,by omega⟩
  have h2:x / W<j+1 ↔ x / W<j:=by omega
  simp [h2]
theorem cells_src {w0 w:World} {M:List Res} {Φ:List (World→Prop)} {b:Nat} {cs:Array Value} {T:TypeId} (hL:Holds w0 w M Φ) (hat:At M (blk b cs T)):∀ j v,cs.toList[j]?=some v→w.cell? ((⟨b,0,none⟩:Addr).add j)=some v:=by
 intro j v hj
 have hadd:(⟨b,0,none⟩:Addr).add j=⟨b,j,none⟩:=by unfold Addr.add;split <;> simp_all
 rw [hadd,hL.cell hat]
 simpa using hj
theorem cells_one (n:Nat) (f:Nat→Int):∀ v∈(arrU n f).toList,v.oneCell'=true:=fun v hv=>Array.all_eq_true_iff_forall_mem.1 (arrU_one n f) v (by simpa using hv)
set_option maxRecDepth 100000 in
set_option maxHeartbeats 8000000 in
theorem coverMask_calls {W H:Nat} (hs:Sides W H) (w:World) (v:Value) (l:List Sg) (hv:SegsAt w v l) (hm:pathMay l=true) (rule:Int) (hr:rule=0∨rule=1) :
  Calls Tryz.prog 228 #[v,.int .i64 rule,.int .i64 W,.int .i64 H] w (MaskOut W H (fun j i=>isIn rule (windG (edgesS l) (16*(i:Int)+8) (16*(j:Int)+8))) w):=by
 have Hv:=Lib.hid hv
 obtain ⟨a,cap,rfl,_⟩:=hv.parts
 clear hv
 obtain ⟨m1,m2,m3⟩:=mask_bounds hs
 have hw0:=hs.w0;have hw1:=hs.w1;have hh0:=hs.h0;have hh1:=hs.h1
 have HsW:=Lib.hid (side_nat hs.w0 hs.w1)
 have HsH:=Lib.hid (side_nat hs.h0 hs.h1)
 have HM:=Lib.hid hm
 clear hm
 have hlen:(edgesS l).length≤1152921504606846976:=Nat.le_trans (edgesS_len l) (by omega)
 have HE:=Lib.hid (fun w' hv=>edges_calls w' (.slice a l.length cap) l hv)
 generalize edgesS l=E at *
 have hi:∀ w' ve (j i:Nat),EdgesAt w' ve E→Calls Tryz.prog 231 #[ve,.int .i64 rule,.int .i64 (16*(i:Int)+8),.int .i64 (16*(j:Int)+8)] w' fun r w''=>r=.returned (.bool ((fun j i:Nat=>isIn rule (windG E (16*(i:Int)+8) (16*(j:Int)+8))) j i))∧Below w'.heap.size w' w'':=fun w' ve j i hv=>windInX_calls w' ve E hv hlen rule _ _
 generalize (fun j i:Nat=>isIn rule (windG E (16*(i:Int)+8) (16*(j:Int)+8)))=p at *
 have HI:=Lib.hid hi
 clear hi hlen
 have hL:=Holds.start w
 have hr2:(rule != 0)=false∨((rule != 0)=true∧(rule != 1)=false):=by rcases hr with h|h <;> subst h <;> simp
 clear hr
 have hwr:IntKind.i64.wrap ((W:Int)*(H:Int))=(W:Int)*(H:Int):=by rw [IntKind.wrap_i64];omega
 rcases hr2 with hr3|⟨hr3,hr4⟩
 all_goals
  obtain ⟨n1,n2,n3⟩:=tok3
  go_enter Tryz.func228,Tryz.ntmps228
  go_wp2_with (first|(go_at_call 45;(with_reducible refine (pathMay_calls _ _ l (Hv.out.hold hL)).mono ?_);rintro e _ ⟨rfl,hb⟩;rw [HM.out];replace hL:=hL.call hb;clear hb)|(go_at_call 210;(with_reducible refine (coverSide_calls _ _).mono ?_);rintro e _ ⟨rfl,rfl⟩;first|rw [HsW.out]|rw [HsH.out])|((with_reducible refine wpA_make rfl _ _ _ rfl _ rfl rfl ?_);refine makeU (W*H) (by omega) (by simp) hL ?_)|(go_at_call 186;(with_reducible refine (HE.out _ (Hv.out.hold hL)).mono ?_);rintro e _ ⟨ve,rfl,hb,hf⟩;obtain ⟨ea,ec,rfl,_⟩:=EdgesAt.parts hf.now;replace hL:=hL.callF hb hf;clear hb hf)|(with_reducible first|(clear hL n1;intro b1 w1 hL)|(clear hL n2;intro b2 w2 hL)|(clear hL n3;intro b3 w3 hL)|(clear hL;intro _ hL))|((with_reducible refine goJ rfl ?_);refine goW ?_))
  rw [show arrU (W*H) (fun _=>0)=arrU (W*H) (maskF W (rowsF p 0)) from arrU_congr fun x _=>by simp [maskF,rowsF,bit]] at hL
  go_loopw [47] (fun s47 wr=>∃ j:Nat,j≤H∧s47=.int .i64 j∧Holds w wr [blk b3 #[.int .i64 W,.int .i64 H,.slice (some ⟨b2,0,none⟩) (W*H) (W*H)] 86,blk b2 (arrU (W*H) (maskF W (rowsF p j))) 5,blk b1 #[.int .i64 0,.int .i64 0,.slice none 0 0] 86] [fun w=>EdgesAt w (.slice ea E.length ec) E])
   (fun s47 wr=>H-(intOf s47).toNat)
  case atStart=>exact ⟨0,by omega,rfl,hL⟩
  case round =>
   clear hL
   obtain ⟨j,hj,rfl,hL⟩:=hrel
   by_cases hjt:j<H
   ·have hjb:(j:Int)<(H:Int):=by omega
    have hfit:j*W+W≤W*H:=by
     have:=Nat.mul_le_mul_right W (show j+1≤H by omega)
     rw [Nat.add_mul,Nat.mul_comm H W] at this
     omega
    have hjw:((j:Int)*(W:Int)).toNat=j*W:=by rw [←Int.natCast_mul,Int.toNat_natCast]
    have hjw0:0≤(j:Int)*(W:Int):=Int.mul_nonneg (by omega) (by omega)
    have hjw1:(j:Int)*(W:Int)≤((W*H:Nat):Int):=by rw [←Int.natCast_mul];omega
    have hne:¬W*H=j*W:=by omega
    obtain ⟨n1,n2,n3,n4⟩:=tok4
    clear n1 n2 n3
    go_wp2_with (first|((with_reducible refine wpA_make rfl _ _ _ rfl _ rfl rfl ?_);refine makeU W (by omega) rfl hL ?_)|(with_reducible (clear hL n4;intro b4 w4 hL)))
    rw [show arrU W (fun _=>0)=arrU W (partF (p j) 0) from arrU_congr fun x _=>by simp [partF]] at hL
    go_loopw [54] (fun s54 wq=>∃ k:Nat,k≤W∧s54=.int .i64 k∧Holds w wq [blk b4 (arrU W (partF (p j) k)) 5,blk b3 #[.int .i64 W,.int .i64 H,.slice (some ⟨b2,0,none⟩) (W*H) (W*H)] 86,blk b2 (arrU (W*H) (maskF W (rowsF p j))) 5,blk b1 #[.int .i64 0,.int .i64 0,.slice none 0 0] 86] [fun w=>EdgesAt w (.slice ea E.length ec) E])
     (fun s54 wq=>W-(intOf s54).toNat)
    case atStart=>exact ⟨0,by omega,rfl,hL⟩
    case round =>
     clear hL
     obtain ⟨k,hk,rfl,hL⟩:=hrel
     by_cases hkt:k<W
     ·have hkb:(k:Int)<(W:Int):=by omega
      cases hp:p j k with
      | true =>
       have Hp:=Lib.hid hp
       clear hp
       go_wp2_with (first|(go_at_call 231;(with_reducible refine (HI.out _ _ j k hL.fact0).mono ?_);rintro e _ ⟨rfl,hb⟩;rw [Hp.out];replace hL:=hL.call hb;clear hb)|(with_reducible (clear hL;intro _ hL))|((with_reducible refine goJ rfl ?_);refine goW ?_))
       go_roundw
       case rel =>
        rw [partF_set _ _ _ Hp.out] at hL
        exact ⟨k+1,by omega,by go_num,hL⟩
       case measure=>simp [intOf];omega
      | false =>
       have Hp:=Lib.hid hp
       clear hp
       go_wp2_with (first|(go_at_call 231;(with_reducible refine (HI.out _ _ j k hL.fact0).mono ?_);rintro e _ ⟨rfl,hb⟩;rw [Hp.out];replace hL:=hL.call hb;clear hb)|(with_reducible (clear hL;intro _ hL))|((with_reducible refine goJ rfl ?_);refine goW ?_))
       go_roundw
       case rel =>
        rw [partF_skip _ _ _ Hp.out] at hL
        exact ⟨k+1,by omega,by go_num,hL⟩
       case measure=>simp [intOf];omega
     ·have e:k=W:=by omega
      subst e
      have HC:=Lib.hid (copy_arrU (n:=k*H) (W:=k) (o:=j*k) (maskF k (rowsF p j)) (partF (p j) k) hfit)
      have HR:=Lib.hid (maskF_row (W:=k) (n:=k*H) (j:=j) (by omega) p hfit)
      go_wp2_with (first|(refine wpList_copy_own rfl _ _ _ _ rfl 5 (by kernel_rfl) (by kernel_rfl) b2 (j*k) _ _ ⟨b4,0,none⟩ _ _ rfl rfl (arrU (k*H) (maskF k (rowsF p j))) 5 (hL.row (.there (.there .here))) (arrU k (partF (p j) k)).toList ?_ ?_ ?_ ?_ ?_;(· rw [Array.length_toList,arrU_size];exact (Nat.min_eq_left (by omega)).symm);(· exact cells_src hL .here);(· rw [Array.length_toList,arrU_size,arrU_size];exact hfit);(· exact cells_one _ _);rw [HC.out,HR.out];have h9:=hL.setRow (cs':=arrU (k*H) (maskF k (rowsF p (j+1)))) (.there (.there .here));clear hL;revert h9;generalize World.setRow _ _ _=w9;intro hL)|((with_reducible refine goJ rfl ?_);refine goW ?_))
      go_roundw
      case rel=>exact ⟨j+1,by omega,by go_num,hL.drop .here⟩
      case measure=>simp [intOf];omega
   ·have e:j=H:=by omega
    subst e
    go_wp2_with (first|(with_reducible (clear hL;intro _ hL))|((with_reducible refine goJ rfl ?_);refine goW ?_))
    refine bodyPost_ret (results_row2 inferInstance rfl _ hL b1 rfl _ _ (.there (.there .here)) rfl) rfl ⟨some ⟨b2,0,none⟩,rfl,hL.below,?_⟩
    refine ((hL.settle (.there .here) (φ:=fun w=>w.heap[b2]?=some (.cells (arrU (W*j) (maskF W (rowsF p j))) 5 (0,0))) fun _ h=>h).map fun w' h1=>?_).fresh
    refine ⟨_,rfl,?_⟩
    have:=bytes_of h1 (by unfold maxLen;omega)
    rw [show (List.range (W*j)).map (maskF W (rowsF p j))=(pixMask W j p).B from ?_] at this
    ·exact this
    ·refine List.map_congr_left fun x hx=>?_
     have hx:x<W*j:=by simpa using hx
     have hd:x / W<j:=Nat.div_lt_of_lt_mul hx
     simp [maskF,rowsF,bit,hd]
open Go.RowKit
section
variable {W H : Nat} {Wi Hi : Int} {n : Nat}
end
end Go.Proofs.YtmnoeoecjfhhbaaGreat
