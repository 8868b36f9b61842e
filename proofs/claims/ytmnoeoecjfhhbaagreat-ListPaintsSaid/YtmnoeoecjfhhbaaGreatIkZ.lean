/- The known page, plain. -/
import Derived.Test.YtmnoeoecjfhhbaaGreatHmX
import Derived.Test.YtmnoeoecjfhhbaaGreatMskM
import Derived.Test.YtmnoeoecjfhhbaaGreatSpB
import Derived.Laws.BytesString
namespace Go.Proofs.YtmnoeoecjfhhbaaGreat
open Go.RowKit
structure Img where
 W:Int
 H:Int
 bits:Int
 data:ByteArray
instance : Inhabited Img := ⟨⟨0, 0, 0, ByteArray.empty⟩⟩
structure Mtx where
 a:Int
 b:Int
 c:Int
 d:Int
 e:Int
 f:Int
instance : Inhabited Mtx := ⟨⟨0, 0, 0, 0, 0, 0⟩⟩
structure Ink where
 r:Int
 g:Int
 b:Int
 a:Int
instance : Inhabited Ink := ⟨⟨0, 0, 0, 0⟩⟩
structure Clp where
 path:List Sg
 rule:Int
instance : Inhabited Clp := ⟨⟨[], 0⟩⟩
structure Itm where
 kind:Int
 path:List Sg
 rule:Int
 style:Sty
 image:Img
 mat:Mtx
 ink:Ink
 clips:List Clp
instance : Inhabited Itm := ⟨⟨0, [], 0, ⟨0, 0, 0⟩, default, default, default, []⟩⟩
def rowI (i:Img):Int:=(i.W*i.bits+7) / 8
def mayImg (i:Img):Bool:=(decide (i.bits=1) || (decide (i.bits=2) || (decide (i.bits=4) || decide (i.bits=8))))&&((decide (1≤i.W)&&decide (i.W≤64))&&((decide (1≤i.H)&&decide (i.H≤64))&&decide ((i.data.size:Int)=i.H*rowI i)))
def byteI (s:ByteArray) (k:Nat):Int:=match s[k]? with|some b=>(b.toNat:Int)|none=>0
def sampI (i:Img) (x y:Int):Int:=if x<0∨i.W≤x∨y<0∨i.H≤y then -1 else byteI i.data (y*rowI i+x*i.bits / 8).toNat / 2^(8-i.bits-x*i.bits%8).toNat%2^i.bits.toNat
def fixI (v:Int):Bool:=decide (-1073741823≤v)&&decide (v≤1073741823)
def mayMtx (m:Mtx):Bool:=fixI m.a&&(fixI m.b&&(fixI m.c&&(fixI m.d&&(fixI m.e&&fixI m.f))))
def detM (m:Mtx):Int:=m.a*m.d-m.b*m.c
def atI (i:Img) (m:Mtx) (x y:Int):Int:=sampI i ((m.d*(x*65536-m.e)-m.c*(y*65536-m.f)).fdiv (detM m)) ((m.a*(y*65536-m.f)-m.b*(x*65536-m.e)).fdiv (detM m))
def sampP (i:Img) (m:Mtx) (least:Int) (j x:Nat):Bool:=decide (least≤atI i m (16*(x:Int)+8) (16*(j:Int)+8))
theorem down_pos (a b:Int) (hb:0<b):(if a.tmod b<0 then a.tdiv b-1 else a.tdiv b)=a.fdiv b:=by
 rw [Int.fdiv_eq_ediv_of_nonneg a (by omega)]
 have h1:=Int.mul_tdiv_add_tmod a b
 have h2:=Int.tmod_lt_of_pos a hb
 have h3 : -b<a.tmod b:=by
  rcases Int.le_total 0 a with h|h
  ·have:=Int.tmod_nonneg b h;omega
  ·have h4:=Int.tmod_lt_of_pos (-a) hb
   rw [Int.neg_tmod] at h4
   omega
 generalize a.tmod b=r at *
 generalize a.tdiv b=q at *
 by_cases hr:r<0
 ·rw [if_pos hr]
  have e:a=(r+b)+b*(q-1):=by rw [←h1,Int.mul_sub];omega
  rw [e,Int.add_mul_ediv_left _ _ (by omega),Int.ediv_eq_zero_of_lt (by omega) (by omega)]
  omega
 ·rw [if_neg hr,←h1,Int.add_comm,Int.add_mul_ediv_left _ _ (by omega),Int.ediv_eq_zero_of_lt (by omega) (by omega)]
  omega
theorem fdiv_negs (a b:Int) (_:b<0):(-a).fdiv (-b)=a.fdiv b:=by
 have h:=Int.neg_fdiv_neg a b
 exact h
def blend (u o a:Int):Int:=(2*(u*(255-a)+o*a)+255) / 510
theorem blend_bd {u o a:Int} (h0:0≤u) (h1:u≤255) (h2:0≤o) (h3:o≤255) (h4:0≤a) (h5:a≤255):0≤blend u o a∧blend u o a≤255:=by
 have e1:u*(255-a)≤255*(255-a):=Int.mul_le_mul_of_nonneg_right h1 (by omega)
 have e2:o*a≤255*a:=Int.mul_le_mul_of_nonneg_right h3 h4
 have e3:0≤u*(255-a):=Int.mul_nonneg h0 (by omega)
 have e4:0≤o*a:=Int.mul_nonneg h2 h4
 unfold blend
 omega
def chan (k:Ink) (c:Nat):Int:=if c=0 then k.r else if c=1 then k.g else k.b
def putF (W:Nat) (q:Nat→Nat→Bool) (k:Ink) (f:Nat→Int) (n:Nat):Int:=if q (n / 3 / W) (n / 3%W) then blend (f n) (chan k (n%3)) k.a else f n
def greyI (i:Img) (v:Int):Int:=v*255 / (2^i.bits.toNat-1)
def imgF (W:Nat) (q:Nat→Nat→Bool) (i:Img) (m:Mtx) (f:Nat→Int) (n:Nat):Int:=if q (n / 3 / W) (n / 3%W)&&sampP i m 0 (n / 3 / W) (n / 3%W) then greyI i (atI i m (16*((n / 3%W:Nat):Int)+8) (16*((n / 3 / W:Nat):Int)+8)) else f n
def isRule (r:Int):Bool:=decide (r=0) || decide (r=1)
def mayClips (l:List Clp):Bool:=(l.all fun c=>pathMay c.path&&isRule c.rule)&&decide (l.length≤10)
def noMtx (m:Mtx):Bool:=decide (m.a=0)&&(decide (m.b=0)&&(decide (m.c=0)&&(decide (m.d=0)&&(decide (m.e=0)&&decide (m.f=0)))))
def noImg (i:Img):Bool:=decide (i.W=0)&&(decide (i.H=0)&&(decide (i.bits=0)&&decide (i.data.size=0)))
def noSty (s:Sty):Bool:=decide (s.wide=0)&&(decide (s.cap=0)&&decide (s.join=0))
def mayItm (i:Itm):Bool:=mayClips i.clips&&(
 if i.kind=1 then pathMay i.path&&(isRule i.rule&&(noSty i.style&&(noImg i.image&&noMtx i.mat)))
 else if i.kind=2 then straightS i.path&&(decide (i.rule=0)&&(mayY i.style&&(noImg i.image&&noMtx i.mat)))
 else if i.kind=3∨i.kind=4 then (decide (i.path.length=0)&&decide (i.rule=0))&&(noSty i.style&&(mayImg i.image&&(mayMtx i.mat&&(decide (detM i.mat≠0)&&(decide (i.kind=3) || decide (i.image.bits=1))))))
 else false)
def workI (i:Itm):Int:=(i.path.length:Int)+4+(i.clips.map fun c=>(c.path.length:Int)).sum
def fillP (l:List Sg) (rule:Int) (j x:Nat):Bool:=isIn rule (windG (edgesS l) (16*(x:Int)+8) (16*(j:Int)+8))
def hemP (l:List Sg) (s:Sty) (j x:Nat):Bool:=covL (allS l s) (16*(x:Int)+8) (16*(j:Int)+8)
def baseP (i:Itm):Nat→Nat→Bool:=if i.kind=1 then fillP i.path i.rule else if i.kind=2 then hemP i.path i.style else if i.kind=3 then sampP i.image i.mat 0 else sampP i.image i.mat 1
def clipsP (l:List Clp) (j x:Nat):Bool:=l.all fun c=>fillP c.path c.rule j x
def markP (i:Itm) (j x:Nat):Bool:=baseP i j x&&clipsP i.clips j x
def paintI (W:Nat) (i:Itm) (f:Nat→Int):Nat→Int:=if i.kind=3 then imgF W (markP i) i.image i.mat f else putF W (markP i) i.ink f
def paintL (W:Nat) (l:List Itm):Nat→Int:=l.foldl (fun f i=>paintI W i f) fun _=>255
theorem paintL_snoc (W:Nat) (l:List Itm) (i:Itm):paintL W (l++[i])=paintI W i (paintL W l):=by
 unfold paintL
 rw [List.foldl_append]
 rfl
theorem clipsP_snoc (l:List Clp) (c:Clp) (j x:Nat):clipsP (l++[c]) j x=(clipsP l j x&&fillP c.path c.rule j x):=by
 unfold clipsP
 rw [List.all_append,List.all_cons,List.all_nil,Bool.and_true]
theorem clipsP_take (l:List Clp) (k:Nat) (h:k<l.length) (j x:Nat):clipsP (l.take (k+1)) j x=(clipsP (l.take k) j x&&fillP (l.getD k default).path (l.getD k default).rule j x):=by
 rw [List.take_succ_eq_append_getElem h,clipsP_snoc]
 simp [h]
open Go.RowKit
def imgC (i:Img):List Value:=[.int .i64 i.W,.int .i64 i.H,.int .i64 i.bits,.string i.data]
def mtxC (m:Mtx):List Value:=[.int .i64 m.a,.int .i64 m.b,.int .i64 m.c,.int .i64 m.d,.int .i64 m.e,.int .i64 m.f]
def inkC (k:Ink):List Value:=[.int .u8 k.r,.int .u8 k.g,.int .u8 k.b,.int .u8 k.a]
def clpC (v:Value) (c:Clp):List Value:=[v,.int .i64 c.rule]
def itmC (vp vc:Value) (i:Itm):List Value:=[.int .i64 i.kind,vp,.int .i64 i.rule,.int .i64 i.style.wide,.int .i64 i.style.cap,.int .i64 i.style.join,
 .int .i64 i.image.W,.int .i64 i.image.H,.int .i64 i.image.bits,.string i.image.data,
 .int .i64 i.mat.a,.int .i64 i.mat.b,.int .i64 i.mat.c,.int .i64 i.mat.d,.int .i64 i.mat.e,.int .i64 i.mat.f,
 .int .u8 i.ink.r,.int .u8 i.ink.g,.int .u8 i.ink.b,.int .u8 i.ink.a,vc]
def InkOk (k:Ink):Prop:=(0≤k.r∧k.r≤255)∧(0≤k.g∧k.g≤255)∧(0≤k.b∧k.b≤255)∧(0≤k.a∧k.a≤255)
def ItmOk (i:Itm):Prop:=i.image.data.size≤maxLen∧InkOk i.ink
def ClpAt (w:World) (b o:Nat) (c:Clp):Prop:=∃ u,w.rangeAt b o (clpC u c)∧SegsAt w u c.path
def ClpsAt (w:World) (v:Value) (l:List Clp):Prop:=∃ a cap,v=.slice a l.length cap∧l.length≤cap∧cap≤maxLen∧∀ i,i<l.length→∃ b o,a=some ⟨b,o,none⟩∧ClpAt w b (o+i*2) (l.getD i default)
def ItmAt (w:World) (b o:Nat) (i:Itm):Prop:=∃ vp vc,w.rangeAt b o (itmC vp vc i)∧SegsAt w vp i.path∧ClpsAt w vc i.clips∧ItmOk i
def ItmIs (w:World) (v:Value) (i:Itm):Prop:=∃ vp vc,v=.agg (itmC vp vc i).toArray∧SegsAt w vp i.path∧ClpsAt w vc i.clips∧ItmOk i
def ItmsAt (w:World) (v:Value) (l:List Itm):Prop:=∃ a cap,v=.slice a l.length cap∧l.length≤cap∧cap≤maxLen∧∀ i,i<l.length→∃ b o,a=some ⟨b,o,none⟩∧ItmAt w b (o+i*21) (l.getD i default)
section
variable {w w' : World} (hb : Below w.heap.size w w')
include hb
theorem ClpAt.below {b o:Nat} {c:Clp} (h:ClpAt w b o c):ClpAt w' b o c:=by
 obtain ⟨u,h1,h2⟩:=h
 exact ⟨u,rangeAt_below h1 hb,SliceAt.below h2 hb⟩
theorem ClpsAt.below {v:Value} {l:List Clp} (h:ClpsAt w v l):ClpsAt w' v l:=by
 obtain ⟨a,cap,h1,h2,h3,h4⟩:=h
 refine ⟨a,cap,h1,h2,h3,fun i hi=>?_⟩
 obtain ⟨b,o,e,h⟩:=h4 i hi
 exact ⟨b,o,e,h.below hb⟩
theorem ItmAt.below {b o:Nat} {i:Itm} (h:ItmAt w b o i):ItmAt w' b o i:=by
 obtain ⟨vp,vc,h1,h2,h3,h4⟩:=h
 exact ⟨vp,vc,rangeAt_below h1 hb,SliceAt.below h2 hb,h3.below hb,h4⟩
theorem ItmIs.below {v:Value} {i:Itm} (h:ItmIs w v i):ItmIs w' v i:=by
 obtain ⟨vp,vc,h1,h2,h3,h4⟩:=h
 exact ⟨vp,vc,h1,SliceAt.below h2 hb,h3.below hb,h4⟩
theorem ItmsAt.below {v:Value} {l:List Itm} (h:ItmsAt w v l):ItmsAt w' v l:=by
 obtain ⟨a,cap,h1,h2,h3,h4⟩:=h
 refine ⟨a,cap,h1,h2,h3,fun i hi=>?_⟩
 obtain ⟨b,o,e,h⟩:=h4 i hi
 exact ⟨b,o,e,h.below hb⟩
end
theorem ItmAt.val {w:World} {b o:Nat} {i:Itm} (h:ItmAt w b o i):∃ v,ItmIs w v i∧w.rangeAt b o v.cells.toList:=by
 obtain ⟨vp,vc,h1,h2,h3,h4⟩:=h
 exact ⟨_,⟨vp,vc,rfl,h2,h3,h4⟩,h1⟩
open Go.RowKit
def pgF (p:Nat→Nat→Bool) (j:Nat) (S:Nat→Bool) (r c:Nat):Bool:=(decide (r<j)&&p r c) || (decide (r=j)&&S c)
theorem pgF_next (p:Nat→Nat→Bool) (j:Nat) (S:Nat→Bool) {W:Nat} (h:∀ c,c<W→S c=p j c) (r c:Nat) (hc:c<W):pgF p j S r c=pgF p (j+1) (fun _=>false) r c:=by
 unfold pgF
 by_cases h1:r=j
 ·subst h1;simp [h c hc]
 ·have:r<j+1 ↔ r<j:=by omega
  simp [h1,this]
def doF (W:Nat) (S:Nat→Nat→Bool) (g:Nat→Int→Int) (f:Nat→Int) (n:Nat):Int:=if S (n / 3 / W) (n / 3%W) then g n (f n) else f n
theorem three_at {W i j c:Nat} (hi:i<W) (hc:c<3):(3*(j*W+i)+c) / 3 / W=j∧(3*(j*W+i)+c) / 3%W=i:=by
 have e:(3*(j*W+i)+c) / 3=j*W+i:=by omega
 rw [e]
 exact (divmod_eq hi).1 rfl
theorem three_of {W i j n:Nat} (h1:n / 3 / W=j) (h2:n / 3%W=i) (hi:i<W):n / 3=j*W+i:=(divmod_eq hi).2 ⟨h1,h2⟩
theorem doF_at {W i j c:Nat} (p:Nat→Nat→Bool) (S:Nat→Bool) (g:Nat→Int→Int) (f:Nat→Int) (hi:i<W) (hc:c<3) (hS:S i=false):doF W (pgF p j S) g f (3*(j*W+i)+c)=f (3*(j*W+i)+c):=by
 unfold doF pgF
 obtain ⟨h1,h2⟩:=three_at (W:=W) (j:=j) hi hc
 rw [h1,h2,hS]
 simp
theorem doF_set {W N i j:Nat} (p:Nat→Nat→Bool) (S:Nat→Bool) (g:Nat→Int→Int) (f:Nat→Int) (hi:i<W):arrU N (fun x=>if x=3*(j*W+i)+2 then g (3*(j*W+i)+2) (f (3*(j*W+i)+2)) else if x=3*(j*W+i)+1 then g (3*(j*W+i)+1) (f (3*(j*W+i)+1)) else if x=3*(j*W+i) then g (3*(j*W+i)) (f (3*(j*W+i))) else doF W (pgF p j S) g f x)=arrU N (doF W (pgF p j fun c=>if c=i then true else S c) g f):=by
 refine arrU_congr fun x _=>?_
 have key:∀ c,c<3→doF W (pgF p j fun c=>if c=i then true else S c) g f (3*(j*W+i)+c)=g (3*(j*W+i)+c) (f (3*(j*W+i)+c)):=by
  intro c hc
  obtain ⟨h1,h2⟩:=three_at (W:=W) (j:=j) hi hc
  unfold doF pgF
  rw [h1,h2]
  simp
 by_cases h2:x=3*(j*W+i)+2
 ·subst h2;rw [if_pos rfl,key 2 (by omega)]
 rw [if_neg h2]
 by_cases h1:x=3*(j*W+i)+1
 ·subst h1;rw [if_pos rfl,key 1 (by omega)]
 rw [if_neg h1]
 by_cases h0:x=3*(j*W+i)
 ·subst h0;rw [if_pos rfl];exact (key 0 (by omega)).symm
 rw [if_neg h0]
 unfold doF pgF
 by_cases hj:x / 3 / W=j
 ·have hx:¬x / 3%W=i:=fun e=>by have:=three_of hj e hi;omega
  simp [hj,hx]
 ·simp [hj]
theorem doF_congr {W N:Nat} {P Q:Nat→Nat→Bool} {g:Nat→Int→Int} {f:Nat→Int} (hW:0<W) (h:∀ r c,c<W→P r c=Q r c):arrU N (doF W P g f)=arrU N (doF W Q g f):=by
 refine arrU_congr fun x _=>?_
 unfold doF
 rw [h _ _ (Nat.mod_lt _ hW)]
theorem doF_none {W N:Nat} (p:Nat→Nat→Bool) (g:Nat→Int→Int) (f:Nat→Int):arrU N (doF W (pgF p 0 fun _=>false) g f)=arrU N f:=arrU_congr fun x _=>by simp [doF,pgF]
theorem doF_whole {W H:Nat} (_:0<W) (p:Nat→Nat→Bool) (g:Nat→Int→Int) (f:Nat→Int):arrU (3*W*H) (doF W (pgF p H fun _=>false) g f)=arrU (3*W*H) (doF W p g f):=by
 refine arrU_congr fun x hx=>?_
 have:x / 3 / W<H:=by
  rw [Nat.div_div_eq_div_mul]
  exact Nat.div_lt_of_lt_mul hx
 unfold doF pgF
 simp [this]
theorem ofMid_new {l:List (Int × Int)} {k:Nat} {f:Int} {i:Nat} (h:∀ m,m<k→m<l.length→(l.getD m (0,0)).2≤f) (hf:f≤(i:Int)):ofMid l k f i i=false:=by
 unfold ofMid
 have h1:(decide (max 0 f≤(i:Int))&&decide ((i:Int)<i))=false:=by simp
 rw [h1,Bool.or_false]
 unfold inRuns
 rw [List.any_eq_false]
 intro r hr
 obtain ⟨m,hm,rfl⟩:=List.getElem_of_mem hr
 have hm2:m<k∧m<l.length:=by rw [List.length_take] at hm;omega
 have h2:=h m hm2.1 hm2.2
 rw [List.getElem_take]
 rw [show l.getD m (0,0)=l[m] by simp [hm2.2]] at h2
 unfold inRun
 simp
 omega
theorem mayFrom_from {w:Int}:∀ (l:List (Int × Int)) (at_:Int),mayFrom at_ w l=true→∀ k,k<l.length→at_<(l.getD k (0,0)).1∧(l.getD k (0,0)).1<(l.getD k (0,0)).2∧(l.getD k (0,0)).2≤w
 | [],_,_,k,hk=>by simp at hk
 | r::t,at_,h,k,hk=>by
  rw [mayFrom] at h
  simp only [Bool.and_eq_true,decide_eq_true_iff] at h
  rcases k with _|k
  ·simp only [List.getD_cons_zero];omega
  ·have:=mayFrom_from t _ h.2.2.2 k (by simpa using hk)
   simp only [List.getD_cons_succ]
   omega
theorem runs_behind {w:Int}:∀ (l:List (Int × Int)) (at_:Int),mayFrom at_ w l=true→∀ m k,m<k→k<l.length→(l.getD m (0,0)).2≤(l.getD k (0,0)).1
 | [],_,_,m,k,_,hk=>by simp at hk
 | r::t,at_,h,m,k,hmk,hk=>by
  rw [mayFrom] at h
  simp only [Bool.and_eq_true,decide_eq_true_iff] at h
  rcases k with _|k
  ·omega
  rcases m with _|m
  ·have:=mayFrom_from t _ h.2.2.2 k (by simpa using hk)
   simp only [List.getD_cons_zero,List.getD_cons_succ]
   omega
  ·simp only [List.getD_cons_succ]
   exact runs_behind t _ h.2.2.2 m k (by omega) (by simpa using hk)
def bandF (W:Nat) (a b:Int) (f:Nat→Int) (n:Nat):Int:=if a≤((n / (3*W):Nat):Int)∧((n / (3*W):Nat):Int)<b then f n else 255
theorem fix_bd {m:Mtx} (h:mayMtx m=true):(-1073741823≤m.a∧m.a≤1073741823)∧(-1073741823≤m.b∧m.b≤1073741823)∧(-1073741823≤m.c∧m.c≤1073741823)∧(-1073741823≤m.d∧m.d≤1073741823)∧(-1073741823≤m.e∧m.e≤1073741823)∧(-1073741823≤m.f∧m.f≤1073741823):=by
 unfold mayMtx fixI at h
 simp only [Bool.and_eq_true,decide_eq_true_iff] at h
 exact h
theorem div_ref (a d:Int) (hd:d≠0):(if a.tmod d≠0∧((a<0)≠(d<0)) then a.tdiv d-1 else a.tdiv d)=a.fdiv d:=by
 by_cases hp:0<d
 ·rw [←down_pos a d hp]
  by_cases h0:a<0
  ·have h1:a.tmod d≤0:=by
    have:=Int.tmod_nonneg d (show 0 ≤ -a by omega)
    rw [Int.neg_tmod] at this
    omega
   by_cases h2:a.tmod d=0
   ·rw [if_neg (by simp [h2]),if_neg (by omega)]
   ·rw [if_pos ⟨h2,by simp [h0];omega⟩,if_pos (by omega)]
  ·have h1:=Int.tmod_nonneg d (show 0≤a by omega)
   rw [if_neg (by intro h;apply h.2;simp [h0];omega),if_neg (by omega)]
 ·have hn:0 < -d:=by omega
  have e:=down_pos (-a) (-d) hn
  rw [fdiv_negs a d (by omega)] at e
  rw [←e,Int.neg_tmod,Int.tmod_neg,Int.neg_tdiv_neg]
  by_cases h0:a<0
  ·have h1:a.tmod d≤0:=by
    have:=Int.tmod_nonneg d (show 0 ≤ -a by omega)
    rw [Int.neg_tmod] at this
    omega
   rw [if_neg (by intro h;apply h.2;simp [h0];omega),if_neg (by omega)]
  ·have h1:=Int.tmod_nonneg d (show 0≤a by omega)
   by_cases h2:a.tmod d=0
   ·rw [if_neg (by simp [h2]),if_neg (by omega)]
   ·rw [if_pos ⟨h2,by simp [h0];omega⟩,if_pos (by omega)]
open Go.RowKit
structure ImgOk (i:Img):Prop where
 bits:i.bits=1∨i.bits=2∨i.bits=4∨i.bits=8
 w:1≤i.W∧i.W≤64
 h:1≤i.H∧i.H≤64
 size:(i.data.size:Int)=i.H*rowI i
theorem mayImg_ok {i:Img} (h:mayImg i=true):ImgOk i:=by
 unfold mayImg at h
 simp only [Bool.and_eq_true,Bool.or_eq_true,decide_eq_true_iff] at h
 exact ⟨h.1,h.2.1,h.2.2.1,h.2.2.2⟩
theorem rowI_bd {i:Img} (h:ImgOk i):1≤rowI i∧rowI i≤64:=by
 have hw:=h.w
 unfold rowI
 rcases h.bits with e|e|e|e <;> rw [e] <;> omega
theorem byteI_bd (s:ByteArray) (k:Nat):0≤byteI s k∧byteI s k≤255:=by
 unfold byteI
 split
 ·rename_i b _
  have:=b.toNat_lt
  omega
 ·omega
theorem place_bd {i:Img} (h:ImgOk i) {x y:Int} (hx:0≤x∧x<i.W) (hy:0≤y∧y<i.H):0≤y*rowI i+x*i.bits / 8∧y*rowI i+x*i.bits / 8<i.data.size:=by
 have hr:=rowI_bd h
 have h1:x*i.bits / 8<rowI i:=by
  unfold rowI
  have hw:=h.w
  rcases h.bits with e|e|e|e <;> rw [e] <;> omega
 have h2:0≤x*i.bits / 8:=by
  rcases h.bits with e|e|e|e <;> rw [e] <;> omega
 have h3:0≤y*rowI i:=Int.mul_nonneg hy.1 (by omega)
 have h4:(y+1)*rowI i≤i.H*rowI i:=Int.mul_le_mul_of_nonneg_right (by omega) (by omega)
 rw [Int.add_mul,Int.one_mul] at h4
 rw [h.size]
 omega
theorem shift_bd {i:Img} (h:ImgOk i) (x:Int):0≤8-i.bits-x*i.bits%8∧8-i.bits-x*i.bits%8≤7:=by
 rcases h.bits with e|e|e|e <;> rw [e] <;> omega
theorem sampI_in {i:Img} (h:ImgOk i) (x y:Int) : -1≤sampI i x y∧sampI i x y<2^i.bits.toNat∧sampI i x y≤255:=by
 have hp:(1:Int)≤2^i.bits.toNat∧(2:Int)^i.bits.toNat≤256:=by
  rcases h.bits with e|e|e|e <;> rw [e] <;> decide
 unfold sampI
 split
 ·omega
 ·have h1:=Int.emod_nonneg (byteI i.data (y*rowI i+x*i.bits / 8).toNat / 2^(8-i.bits-x*i.bits%8).toNat) (show (2:Int)^i.bits.toNat≠0 by omega)
  have h2:=Int.emod_lt_of_pos (byteI i.data (y*rowI i+x*i.bits / 8).toNat / 2^(8-i.bits-x*i.bits%8).toNat) (show (0:Int)<2^i.bits.toNat by omega)
  omega
theorem greyI_bd {i:Img} (h:ImgOk i) {v:Int} (h0:0≤v) (h1:v<2^i.bits.toNat):0≤greyI i v∧greyI i v≤255:=by
 unfold greyI
 rcases h.bits with e|e|e|e <;> rw [e] at h1 ⊢ <;> simp at h1 ⊢ <;> omega
theorem way_bd {a b p q A:Int} (ha : -1073741823≤a∧a≤1073741823) (hb : -1073741823≤b∧b≤1073741823) (hp : -1610612736≤p∧p≤1610612736) (hq : -1610612736≤q∧q≤1610612736) (hA:A=1729382255299657728):(-A≤a*p∧a*p≤A)∧(-A≤b*q∧b*q≤A):=by
 have h1:=mul_bd ha.1 ha.2 hp.1 hp.2
 have h2:=mul_bd hb.1 hb.2 hq.1 hq.2
 omega
theorem det_bd {m:Mtx} (h:mayMtx m=true) : -2305843009213693952≤detM m∧detM m≤2305843009213693952:=by
 obtain ⟨h1,h2,h3,h4,_,_⟩:=fix_bd h
 have e1:=mul_bd h1.1 h1.2 h4.1 h4.2
 have e2:=mul_bd h2.1 h2.2 h3.1 h3.2
 unfold detM
 omega
theorem line_step (d c p q:Int) (k:Nat):d*((16*((k+1:Nat):Int)+8)*65536-p)-c*q=d*((16*(k:Int)+8)*65536-p)-c*q+d*1048576:=by
 have e:(16*((k+1:Nat):Int)+8)*65536-p=((16*(k:Int)+8)*65536-p)+1048576:=by omega
 rw [e,Int.mul_add]
 omega
open Go.RowKit
def workL (l:List Itm):Int:=(l.map workI).sum
def paintErr (l:List Itm) (w h:Int):Int:=if l.any (fun i=>!mayItm i) then 1 else if !(isSide w&&isSide h) then 1 else if 100<l.length∨2000<workL l then 5 else 0
theorem workI_pos (i:Itm):4≤workI i:=by
 unfold workI
 have:0≤(i.clips.map fun c=>(c.path.length:Int)).sum:=by
  generalize i.clips=l
  induction l with
  | nil=>simp
  | cons a t ih=>simp only [List.map_cons,List.sum_cons];omega
 omega
theorem workL_pos:∀ l:List Itm,0≤workL l
 | []=>by simp [workL]
 | i::t=>by have h1:=workI_pos i;have h2:=workL_pos t;unfold workL at *;simp only [List.map_cons,List.sum_cons];omega
theorem workL_take (l:List Itm) (k:Nat) (h:k<l.length):workL (l.take (k+1))=workL (l.take k)+workI (l.getD k default):=by
 unfold workL
 rw [List.take_succ_eq_append_getElem h,List.map_append,List.sum_append]
 simp [h]
theorem work_min {a b:Int} (m:Int) (hb:0≤b):min (min a m+b) m=min (a+b) m:=by omega
theorem paint_ok {l:List Itm} {w h:Int} (e:paintErr l w h=0):(∀ i∈l,mayItm i=true)∧isSide w=true∧isSide h=true∧l.length≤100∧workL l≤2000:=by
 unfold paintErr at e
 split at e
 ·omega
 split at e
 ·omega
 split at e
 ·omega
 rename_i h1 h2 h3
 refine ⟨fun i hi=>?_,?_,?_,by omega,by omega⟩
 ·by_cases hm:mayItm i=true
  ·exact hm
  ·exact absurd (List.any_eq_true.2 ⟨i,hi,by simpa using hm⟩) h1
 ·cases hw:isSide w <;> simp [hw] at h2 ⊢
 ·cases hw:isSide h <;> simp [hw] at h2 ⊢
theorem paintI_bd {W:Nat} {i:Itm} (hi:mayItm i=true) (hk:(0≤i.ink.r∧i.ink.r≤255)∧(0≤i.ink.g∧i.ink.g≤255)∧(0≤i.ink.b∧i.ink.b≤255)∧(0≤i.ink.a∧i.ink.a≤255)) {f:Nat→Int} {n:Nat} (hf:0≤f n∧f n≤255):0≤paintI W i f n∧paintI W i f n≤255:=by
 unfold paintI
 split
 ·rename_i h3
  have hm:mayImg i.image=true:=by
   unfold mayItm at hi
   rw [h3] at hi
   simp at hi
   exact hi.2.2.2.1
  have ok:=mayImg_ok hm
  unfold imgF
  split
  ·rename_i hs
   rw [Bool.and_eq_true] at hs
   have h1:0≤atI i.image i.mat (16*((n / 3%W:Nat):Int)+8) (16*((n / 3 / W:Nat):Int)+8):=by
    have:=hs.2
    unfold sampP at this
    exact of_decide_eq_true this
   have h2:=sampI_in ok ((i.mat.d*((16*((n / 3%W:Nat):Int)+8)*65536-i.mat.e)-i.mat.c*((16*((n / 3 / W:Nat):Int)+8)*65536-i.mat.f)).fdiv (detM i.mat)) ((i.mat.a*((16*((n / 3 / W:Nat):Int)+8)*65536-i.mat.f)-i.mat.b*((16*((n / 3%W:Nat):Int)+8)*65536-i.mat.e)).fdiv (detM i.mat))
   exact greyI_bd ok h1 h2.2.1
  ·exact hf
 ·unfold putF
  split
  ·have hc:0≤chan i.ink (n%3)∧chan i.ink (n%3)≤255:=by
    unfold chan
    split
    ·exact hk.1
    split
    ·exact hk.2.1
    ·exact hk.2.2.1
   exact blend_bd hf.1 hf.2 hc.1 hc.2 hk.2.2.2.1 hk.2.2.2.2
  ·exact hf
open Go.RowKit
def PageF (v:Value) (W H:Nat) (f:Nat→Int) (w:World):Prop:=∃ s,v=.agg #[.int .i64 W,.int .i64 H,s]∧BytesAt w s ((List.range (3*W*H)).map f)
def PageOut (W H:Nat) (f:Nat→Int) (w:World) (e:Ending) (w':World):Prop :=
 ∃ a c,e=.returned (.tuple #[.agg #[.int .i64 W,.int .i64 H,.slice a (3*W*H) c],.int .i64 0])∧Below w.heap.size w w'∧Fresh w w' (PageF (.agg #[.int .i64 W,.int .i64 H,.slice a (3*W*H) c]) W H f)
theorem PageF.below {w w':World} {v:Value} {W H:Nat} {f:Nat→Int} (h:PageF v W H f w) (hb:Below w.heap.size w w'):PageF v W H f w':=by
 obtain ⟨s,e,h⟩:=h
 exact ⟨s,e,SliceAt.below h hb⟩
theorem PageF.shape {w:World} {v:Value} {W H:Nat} {f:Nat→Int} (h:PageF v W H f w):∃ a c,v=.agg #[.int .i64 W,.int .i64 H,.slice a (3*W*H) c]∧3*W*H≤c∧c≤maxLen∧BytesAt w (.slice a (3*W*H) c) ((List.range (3*W*H)).map f):=by
 obtain ⟨s,rfl,h⟩:=h
 obtain ⟨a,c,rfl,h2,h3,h4⟩:=h.parts
 simp only [List.length_map,List.length_range] at h2 h4 h ⊢
 exact ⟨a,c,rfl,h2,h3,h⟩
theorem PageF.cell {w:World} {W H c:Nat} {a:Option Addr} {f:Nat→Int} (h:BytesAt w (.slice a (3*W*H) c) ((List.range (3*W*H)).map f)) {i:Nat} (hi:i<3*W*H):∃ b o,a=some ⟨b,o,none⟩∧w.cell? ⟨b,o+i,none⟩=some (.int .u8 (f i)):=by
 obtain ⟨a',c',e,h2,h3,h4⟩:=h.parts
 simp only [List.length_map,List.length_range] at e h2 h4
 cases e
 obtain ⟨b,o,rfl,hc⟩:=h4 i hi
 exact ⟨b,o,rfl,by rw [hc];simp [hi]⟩
theorem PageF.congr {w:World} {v:Value} {W H:Nat} {f g:Nat→Int} (h:PageF v W H f w) (e:∀ n,n<3*W*H→f n=g n):PageF v W H g w:=by
 obtain ⟨s,rfl,h⟩:=h
 refine ⟨s,rfl,?_⟩
 rwa [show (List.range (3*W*H)).map g=(List.range (3*W*H)).map f from List.map_congr_left fun n hn=>(e n (by simpa using hn)).symm]
theorem bytes_flat (N:Nat) (f:Nat→Int):(((List.range N).map f).map fun n=>[Value.int .u8 n]).flatten=(arrU N f).toList:=by
 unfold arrU
 rw [List.map_map]
 induction (List.range N) with
 | nil=>rfl
 | cons a t ih=>simpa using ih
theorem arrU_setL {N:Nat} (f:Nat→Int) (b:Int) {i:Nat} (h:i<N):(arrU N f).toList.set i (.int .u8 b)=(arrU N fun j=>if j=i then b else f j).toList:=by
 rw [←arrU_set f b h]
 simp
theorem arrU_lenL (N:Nat) (f:Nat→Int):(arrU N f).toList.length=N:=by rw [Array.length_toList,arrU_size]
theorem appendB {P:Program} {w0 w:World} {M:List Res} {Φ:List (World→Prop)} {K2:Value→World→Prop} {t ty e bytes:Nat} {z v u:Value} [ht:SliceT P t e] [hi:ElemT P e 1 bytes z] {N:Nat} {g:Nat→Int} (hs:BytesAt w u ((List.range N).map g))
  (hL:Holds w0 w M Φ) {f:Res→List Res} (hu:∀ r',Upd M (own w0.heap.size e 1 v 0 []) r' (f r'))
  (hz:z.cells.size=1) (h63:N≤100000) (hbytes:bytes≤8)
  (h:∀ v' w',Holds w0 w' (f (own w0.heap.size e 1 v' N (arrU N g).toList)) Φ→K2 v' w'):AppendAt P t ty v u w K2 :=
 appendOld hs (by intro x hx;obtain ⟨e,_,rfl⟩:=List.mem_map.1 hx;rfl) (by intro x hx y hy;obtain ⟨e,_,rfl⟩:=List.mem_map.1 hx;simp only [List.mem_cons,List.not_mem_nil,or_false] at hy;subst hy;rfl) hL hu hz (by decide)
  (by simp only [List.length_map,List.length_range];unfold maxLen;omega) (by simp only [List.length_map,List.length_range];rw [Nat.zero_add];have:=Nat.mul_le_mul h63 hbytes;omega)
  (by intro v' w' h';rw [bytes_flat] at h';simp only [List.length_map,List.length_range,Nat.zero_add,List.nil_append] at h';exact h v' w' h')
theorem page_own {w:World} {B e:Nat} {v:Value} {N:Nat} {f:Nat→Int} (h:(own B e 1 v N (arrU N f).toList).ok w):BytesAt w v ((List.range N).map f) :=
 own_sliceAt h (by simp) (bytes_flat N f).symm (by intro x hx;obtain ⟨e,_,rfl⟩:=List.mem_map.1 hx;rfl)
theorem byteI_get {s:ByteArray} {k:Nat} (h:k<s.size):∃ b:UInt8,s[k]?=some b∧byteI s k=(b.toNat:Int):=by
 have e:s[k]?=some s[k]:=getElem?_pos s k h
 exact ⟨s[k],e,by unfold byteI;rw [e]⟩
theorem indexStr {P:Program} {w:World} {K:Value→Prop} {T:TypeId} {s:ByteArray} {i:Int} (hT:P.underlying T=some .string) (h0:0≤i) (h1:i<(s.size:Int)) (h:K (.int .u8 (byteI s i.toNat))):IndexAt P T (.string s) i w K:=by
 obtain ⟨b,e,hb⟩:=byteI_get (s:=s) (k:=i.toNat) (by omega)
 refine ⟨_,?_,h⟩
 rw [hb]
 unfold Instr.index
 simp [run_underlying hT,asIntOf,h0,e]
open Go.RowKit
def strS (l:List Int):ByteArray:=l.foldl (fun r n=>r.push (UInt8.ofNat n.toNat)) ByteArray.empty
theorem run_cut0 {P:Program} {w:World} {a:Option Addr} {cap:Nat}:(Conv.bytesToString (.slice a 0 cap)).run P w=.ok (.string (strS [])) w:=by
 cases a with
 | none=>rfl
 | some a=>exact run_bytesToString w a 0 cap [] rfl
open Go.RowKit
def knI:Itm:={ kind:=1,path:=[⟨1,0,0,0,0⟩,⟨2,32,0,0,0⟩,⟨2,32,16,0,0⟩,⟨2,0,16,0,0⟩],rule:=0,style:=⟨0,0,0⟩,image:=⟨0,0,0,ByteArray.empty⟩,mat:=⟨0,0,0,0,0,0⟩,ink:=⟨0,0,0,255⟩,clips:=[] }
theorem kn_err:paintErr [knI] 3 1=0:=by decide +kernel
theorem kn_bytes:(List.range 9).map (paintL 3 [knI])=[0,0,0,0,0,0,255,255,255]:=by decide +kernel
end Go.Proofs.YtmnoeoecjfhhbaaGreat
