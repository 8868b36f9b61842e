/- Package image: May, look, At, Region. -/
import Derived.Test.YtmnoeoecjfhhbaaGreatIkZ
import Derived.Test.YtmnoeoecjfhhbaaGreatRgO
namespace Go.Proofs.YtmnoeoecjfhhbaaGreat
open Go.RowKit
section
variable {P : Program} {w0 w w' : World} {M M' M2 : List Res} {Φ Φ2 : List (World → Prop)} {K : Value → Prop}
theorem wpH_holds {ops:Array Oper} {Q:Exit→Act→World→Prop} {id:Nat} {a:Act} (hm:P.follows .mixedOrders=true) (hL:Holds w0 w M Φ)
  (h:Holds w0 w.drew M Φ→wpAnyH P .any ops Q (fun w'=>Holds w0 w' M Φ) ops.size (Array.replicate ops.size false) a w.drew):(Code.region id ops true).wp P Q a w :=
 wpH_begin hm _ (h hL.drew)
theorem loadP {T:TypeId} {b off n:Nat} [hT:RowT P T n] (hL:Holds w0 w M Φ) {cs:Array Value} {T':TypeId} {vs:List Value} (h:K (.agg vs.toArray))
  (hat:At M (blk b cs T'):=by (repeat (first|with_reducible exact At.here|with_reducible apply At.there))) (hv:(cs.toList.drop off).take n=vs:=by (first|(simp only [List.toList_toArray,List.drop_zero,List.drop_succ_cons,List.take_succ_cons,List.take_zero];rfl)|rfl)) (hn:n=vs.length:=by rfl):LoadAt P T ⟨b,off,none⟩ w K :=
 loadAt_part hT hL cs T' hat vs hv hn h
section
variable {P : Program} {w0 w : World} {ops : Array Oper} {rest : List Oper} {o : Oper} {a : Act} {Q : Exit → Act → World → Prop} {M : List Res} {Φ : List (World → Prop)}
theorem oLoadP {T:TypeId} {x:Operand} {p:Addr} {v:Value} (ho:o.op=.load T x:=by exact rfl) (hgd:Region.wanted o (yielded ops a.tmps)=true:=by exact rfl) (hx:a.eval x=.pointer (some p):=by exact rfl) (hv:LoadAt P T p w (fun u=>u=v):=by first|exact loadA hL rfl|exact loadR hL rfl|exact loadP hL rfl|exact loadC hL rfl|exact loadD rfl|exact loadE hL rfl|exact loadF rfl):Out (wpList P ops Q (o::rest) a w) (wpList P ops Q rest (a.put o.dst v) w):=fun k=>wpA_load hgd T x ho p hx (by obtain ⟨u,h1,h2⟩:=hv;subst h2;exact ⟨_,h1,k⟩)
theorem goP {G':Prop} (k:G') (s:Out (wpList P ops Q (o::rest) a w) G':=by first|exact oLoadP|exact oAlloc hL|exact oBoxA hL|exact oBox hL|exact oStore|exact oIndex|exact oMax|exact oMin|exact oAppend|exact oMake|fail):wpList P ops Q (o::rest) a w:=s k
end
theorem loadU {T e:TypeId} {B n cap g off N:Nat} {f:Nat→Int} [hT:ScalarT P T] (hL:Holds w0 w M Φ) (h:K (.int .u8 (f off)))
  (hat:At M (own B e 1 (.slice (some ⟨g,0,none⟩) n cap) n (arrU N f).toList):=by (repeat (first|with_reducible exact At.here|with_reducible apply At.there))) (hoff:off<N:=by omega):LoadAt P T ⟨g,off,none⟩ w K :=
 loadAt_cell hT _ (hL.ownCell hat (by rw [Array.getElem?_toList,arrU_get f hoff])) h
theorem Holds.comp (h:Holds w0 w M Φ) (k:Holds w w' M2 Φ2):Holds w0 w' (M2++M) (Φ2++Φ):=by
 have H:=h.call k.below
 have lt:∀ r∈M,∀ b,r.foot=some b→b<w.heap.size:=fun r hr b hb=>r.lt w b hb (h.ok r hr)
 refine ⟨H.below,fun r hr=>?_,fun r hr b hb=>?_,?_,fun φ hφ=>?_⟩
 ·rcases List.mem_append.1 hr with hr|hr
  ·exact k.ok r hr
  ·exact H.ok r hr
 ·rcases List.mem_append.1 hr with hr|hr
  ·exact Nat.le_trans h.size (k.low r hr b hb)
  ·exact h.low r hr b hb
 ·refine List.pairwise_append.2 ⟨k.apart,h.apart,fun r hr s hs b hb e=>?_⟩
  have:=lt s hs b e
  have:=k.low r hr b hb
  omega
 ·rcases List.mem_append.1 hφ with hφ|hφ
  ·obtain ⟨F,h1,h2⟩:=k.firm φ hφ
   refine ⟨F,fun b hb=>⟨Nat.le_trans h.size (h1 b hb).1,(h1 b hb).2.1,fun r hr e=>?_⟩,h2⟩
   rcases List.mem_append.1 hr with hr|hr
   ·exact (h1 b hb).2.2 r hr e
   ·have:=lt r hr b e
    have:=(h1 b hb).1
    omega
  ·obtain ⟨F,h1,h2⟩:=h.firm φ hφ
   refine ⟨F,fun b hb=>⟨(h1 b hb).1,Nat.lt_of_lt_of_le (h1 b hb).2.1 k.size,fun r hr e=>?_⟩,fun w2 e=>h2 w2 fun b hb=>(e b hb).trans (k.below.block b (h1 b hb).2.1)⟩
   rcases List.mem_append.1 hr with hr|hr
   ·have:=k.low r hr b e
    have:=(h1 b hb).2.1
    omega
   ·exact (h1 b hb).2.2 r hr e
theorem Holds.perm (h:Holds w0 w M Φ) (hp:M.Perm M'):Holds w0 w M' Φ:=by
 refine ⟨h.below,fun r hr=>h.ok r (hp.mem_iff.2 hr),fun r hr=>h.low r (hp.mem_iff.2 hr),?_,fun φ hφ=>?_⟩
 ·exact (hp.pairwise_iff (fun {r s} k b hb e=>k b e hb)).1 h.apart
 ·obtain ⟨F,h1,h2⟩:=h.firm φ hφ
  exact ⟨F,fun b hb=>⟨(h1 b hb).1,(h1 b hb).2.1,fun r hr=>(h1 b hb).2.2 r (hp.mem_iff.2 hr)⟩,h2⟩
theorem Holds.pull {r:Res} (h:Holds w0 w M Φ) (hr:Rem M r M'):Holds w0 w (r::M') Φ:=by
 obtain ⟨p,q,rfl,rfl⟩:=hr
 exact h.perm List.perm_middle
theorem Holds.turn (h:Holds w0 w (M++M2) Φ):Holds w0 w (M2++M) Φ:=h.perm List.perm_append_comm
end
section
variable {P : Program} {ops : Array Oper} {Q : Exit → Act → World → Prop} {md : Region.Mode} {S : World → Prop} {m : Nat}
def lateWait (md:Region.Mode) (ops:Array Oper) (m i:Nat):Bool:=(List.range (ops.size-m)).all fun k=>waits md ops (m+k) i
theorem lateWait_at {i j:Nat} (h:lateWait md ops m i=true) (hj:m≤j) (hs:j<ops.size):waits md ops j i=true:=by
 unfold lateWait at h
 rw [List.all_eq_true] at h
 have:=h (j-m) (List.mem_range.2 (by omega))
 rwa [show m+(j-m)=j by omega] at this
theorem take_N {i:Nat} {oi:Oper} {v:Value} (hi:ops[i]?=some oi) (hs:Region.noSelect ops=true) (hQ:∀ c a w,Q (.panic c) (a.put oi.dst v) w→Q (.panic c) a w) (hw:lateWait md ops m i=true) {n:Nat} :
  ∀ {l:Array Bool} {a:Act} {w:World},(∀ j oj,ops[j]?=some oj→j≠i→l.getD j true=false→(∀ e∈oj.after,Region.binds md e=true→e.on≠i)→oi.apart ops oj=true) →
   i∈Region.ready md ops l→YieldsIf P ops S oi v a→S w→wpAnyN P md ops Q S m n (l.setIfInBounds i true) (a.put oi.dst v) w→wpAnyN P md ops Q S m (n+1) l a w:=by
 induction n with
 | zero =>
  intro l a w _ hr hy hS H
  refine ⟨fun e=>absurd (e▸hr) (by simp),fun j hj=>?_⟩
  rcases Decidable.em (j=i) with rfl|hne
  ·exact hy.wpOp hi hS ⟨fun _=>hS,H⟩
  ·exact absurd (H.1▸ready_mono hj hne) (by simp)
 | succ n ih =>
  intro l a w hfree hr hy hS H
  refine ⟨fun e=>absurd (e▸hr) (by simp),fun j hj=>?_⟩
  rcases Decidable.em (j=i) with rfl|hne
  ·exact hy.wpOp hi hS ⟨fun _=>hS,H⟩
  obtain ⟨hun,oj,hoj,hall⟩:=mem_ready.1 hj
  have hjm:j<m:=by
   rcases Nat.lt_or_ge j m with h|h
   ·exact h
   ·exact absurd hj (waits_not (lateWait_at hw h (Array.getElem?_eq_some_iff.1 hoj).1) hr)
  have hoff:∀ e∈oj.after,Region.binds md e=true→e.on≠i:=fun e he hb heq=>by
   have h1:=hall e he hb
   have h0:=(mem_ready.1 hr).1
   rw [heq,Array.getD_eq_getD_getElem?] at h1
   rw [Array.getD_eq_getD_getElem?] at h0
   cases hl:l[i]? with
   | none=>rw [hl] at h0;simp at h0
   | some b=>rw [hl] at h0 h1;simp at h0 h1;rw [h0] at h1;cases h1
  have step:=wpOp_putIf hoj (hfree j oj hoj hne hun hoff) (fun cs b=>Region.noSelect_spec hs i oi cs b hi) (fun cs b=>Region.noSelect_spec hs j oj cs b hoj) hQ hy (H.2 j (ready_mono hj hne))
  refine wpOp_mono (fun a' w' h3=>⟨fun _=>h3.2.1 hjm,ih (fun k ok hk hki hku hno=>?_) (ready_mono hr (Ne.symm hne)) h3.1 (h3.2.1 hjm) ?_⟩) step
  ·refine hfree k ok hk hki ?_ hno
   rcases Decidable.em (j=k) with rfl|hjk
   ·exact hun
   ·rwa [getD_set_ne true hjk] at hku
  ·rw [Array.setIfInBounds_comm _ _ hne]
   exact h3.2.2
theorem stN {i:Nat} (v:Value) {oi:Oper} {n:Nat} {l:Array Bool} {a:Act} {w:World} (h6:S w) (hy:(∀ w,S w→(execOp a.eval oi).run P w=.ok (.value v) w)) (h9:wpAnyN P md ops Q S m n (l.setIfInBounds i true) (a.put oi.dst v) w)
  (hi:ops[i]?=some oi:=by (simp only [List.getElem?_toArray,List.getElem?_cons_zero,List.getElem?_cons_succ];rfl))
  (h1:Region.noSelect ops=true:=by kernel_rfl) (h2:Region.free md ops l i=true:=by kernel_rfl) (h3:(Region.ready md ops l).contains i=true:=by kernel_rfl) (h4:lateWait md ops m i=true:=by kernel_rfl)
  (h5:∀ c a w,Q (.panic c) (a.put oi.dst v) w→Q (.panic c) a w:=by exact fun _ _ _ h=>h) (h7:Region.wanted oi (yielded ops a.tmps)=true:=by rfl):wpAnyN P md ops Q S m (n+1) l a w :=
 take_N hi h1 h5 h4 (Region.free_spec hi h2) (by simpa using h3) (.inl ⟨h7,hy⟩) h6 h9
theorem deN (i:Nat) {v:Value} {oi:Oper} {n:Nat} {l l':Array Bool} {a a':Act} {w:World} (h6:S w) (h9:wpAnyN P md ops Q S m n l' a' w) (hi:ops[i]?=some oi:=by (simp only [List.getElem?_toArray,List.getElem?_cons_zero,List.getElem?_cons_succ];rfl)) (hy:∀ w,S w→(execOp a.eval oi).run P w=.ok (.value v) w:=by exact fun w' hw=>(by (go_simp;try with_reducible rfl))) (hl:l.setIfInBounds i true=l':=by (first|(simp only [setP];rfl)|rfl)) (ha:a.put oi.dst v=a':=by (first|(simp only [Act.put,setP];rfl)|rfl)) (h1:Region.noSelect ops=true:=by kernel_rfl) (h2:Region.free md ops l i=true:=by kernel_rfl) (h3:(Region.ready md ops l).contains i=true:=by kernel_rfl) (h4:lateWait md ops m i=true:=by kernel_rfl) (h5:∀ c a w,Q (.panic c) (a.put oi.dst v) w→Q (.panic c) a w:=by exact fun _ _ _ h=>h) (h7:Region.wanted oi (yielded ops a.tmps)=true:=by rfl) :
  wpAnyN P md ops Q S m (n+1) l a w:=by
 subst hl;subst ha
 exact stN (i:=i) v h6 hy h9 hi h1 h2 h3 h4 h5 h7
theorem wpN_holds {w0 w:World} {M:List Res} {Φ:List (World→Prop)} {id:Nat} {a:Act} (m:Nat) (hm:P.follows .mixedOrders=true) (hL:Holds w0 w M Φ)
  (h:Holds w0 w.drew M Φ→wpAnyN P .any ops Q (fun w'=>Holds w0 w' M Φ) m ops.size (Array.replicate ops.size false) a w.drew):(Code.region id ops true).wp P Q a w :=
 wp_region_any hm (h hL.drew).any
theorem st_easy {o:Oper} {K:Act→World→Prop} {a:Act} {w:World} (hgd:Region.wanted o (yielded ops a.tmps)=true) (v:Value) (hr:(execOp a.eval o).run P w=.ok (.value v) w) (h:K (a.put o.dst v) w):wpStep P ops Q o K a w :=
 st_run hgd v w hr h
theorem st_alloc {o:Oper} {K:Act→World→Prop} {a:Act} {w0 w:World} {M:List Res} {Φ:List (World→Prop)} {T:TypeId} {z:Value} {cs:Array Value} [hz:ZeroT P T z cs] (hL:Holds w0 w M Φ)
  (h:∀ b w',Below w.heap.size w w'→Holds w0 w' (blk b cs T::M) Φ→K (a.put o.dst (.pointer (some ⟨b,0,none⟩))) w') (hgd:Region.wanted o (yielded ops a.tmps)=true:=by rfl) (ho:o.op=.alloc T:=by rfl):wpStep P ops Q o K a w:=by
 have hc:=hz.cells
 subst hc
 refine st_run hgd (.pointer (some ⟨w.heap.size,0,none⟩)) (w.alloc (.cells z.cells T)) ?_ (h _ _ ((Below.refl _ _).alloc (Nat.le_refl _) _) (hL.alloc _ _))
 unfold execOp
 have:(Instr.alloc T true (.tuple #[])).run P w=.ok (.pointer (some ⟨w.heap.size,0,none⟩)) (w.alloc (.cells z.cells T)):=by
  unfold Instr.alloc
  rw [Sem.run_bind,hz.out]
  rfl
 simp only [ho,Sem.run_bind,this,Result.andThen_ok]
 rfl
end
section
variable {P : Program} {ops : Array Oper} {Q : Exit → Act → World → Prop} {md : Region.Mode} {V : Nat → World → Prop} {m : Nat}
theorem pinned_off (s n:Nat) {l:Array Bool} {k:Nat} (hk:pinned md ops m l k) (h:(List.range n).all (fun k=>waits md ops s k)=true) (hs:m≤s) (hd:l.getD s false=true):¬k<n:=fun hn=>by
 have h1:=hk s hs hd
 rw [List.all_eq_true] at h
 have h2:=h k (List.mem_range.2 hn)
 rw [h2] at h1
 cases h1
theorem wpV_two {i j:Nat} {n:Nat} {l:Array Bool} {a:Act} {w:World} (hr:Region.ready md ops l=[i,j]) (h:wpOp P ops Q i (fun a' w'=>(∀ k,pinned md ops m (l.setIfInBounds i true) k→V k w')∧wpAnyV P md ops Q V m n (l.setIfInBounds i true) a' w') a w)
  (h2:wpOp P ops Q j (fun a' w'=>(∀ k,pinned md ops m (l.setIfInBounds j true) k→V k w')∧wpAnyV P md ops Q V m n (l.setIfInBounds j true) a' w') a w):wpAnyV P md ops Q V m (n+1) l a w :=
 ⟨fun e=>(by rw [hr] at e;cases e),fun b hb=>(by rw [hr] at hb;simp at hb;rcases hb with rfl|rfl;(· exact h);(· exact h2))⟩
end
open Go.RowKit
def imgV (i:Img):Value:=.agg #[.int .i64 i.W,.int .i64 i.H,.int .i64 i.bits,.string i.data]
def mtxV (m:Mtx):Value:=.agg #[.int .i64 m.a,.int .i64 m.b,.int .i64 m.c,.int .i64 m.d,.int .i64 m.e,.int .i64 m.f]
theorem wrapS {a:Int} (h1 : -9223372036854775808≤a) (h2:a≤9223372036854775807):IntKind.i64.wrap a=a:=by rw [IntKind.wrap_i64];omega
theorem matFix_calls (v:Int) (w:World):Calls Tryz.prog 88 #[.int .i64 v] w fun e w'=>e=.returned (.bool (fixI v))∧w=w':=by
 have hR:fixI v=(decide (-1073741823≤v)&&decide (v≤1073741823)):=rfl
 generalize fixI v=R at *
 by_cases h1 : -1073741823≤v
 ·by_cases h2:v≤1073741823
  ·have HR:=Lib.hid (show R=true by rw [hR];simp [h1,h2])
   clear hR
   go_enter Tryz.func88,Tryz.ntmps88
   go_wp2
   go_ret
   exact ⟨ret_bool HR.out.symm,rfl⟩
  ·have HR:=Lib.hid (show R=false by rw [hR];simp [h2])
   clear hR
   go_enter Tryz.func88,Tryz.ntmps88
   go_wp2
   go_ret
   exact ⟨ret_bool HR.out.symm,rfl⟩
 ·have HR:=Lib.hid (show R=false by rw [hR];simp [h1])
  clear hR
  go_enter Tryz.func88,Tryz.ntmps88
  go_wp2
  go_ret
  exact ⟨ret_bool HR.out.symm,rfl⟩
theorem getD_in {α:Type} {l:List α} {i:Nat} (d:α) (h:i<l.length):l.getD i d=l[i]:=by simp [h]
theorem six_get (a b c d e f:Int) (k:Nat) (hk:k<6):(#[Value.int .i64 a,.int .i64 b,.int .i64 c,.int .i64 d,.int .i64 e,.int .i64 f]:Array Value)[((k:Int)).toNat]?=some (.int .i64 ([a,b,c,d,e,f].getD k 0)):=by
 rcases (by omega:k=0∨k=1∨k=2∨k=3∨k=4∨k=5) with rfl|rfl|rfl|rfl|rfl|rfl <;> rfl
set_option maxRecDepth 100000 in
set_option maxHeartbeats 8000000 in
theorem matMay_calls (m:Mtx) (w:World):Calls Tryz.prog 51 #[mtxV m] w fun e w'=>e=.returned (.bool (mayMtx m))∧Below w.heap.size w w':=by
 have hR:mayMtx m=[m.a,m.b,m.c,m.d,m.e,m.f].all fixI:=by simp [mayMtx]
 generalize mayMtx m=R at *
 obtain ⟨a,b,c,d,e,f⟩:=m
 unfold mtxV
 dsimp only at *
 have HG:=Lib.hid (six_get a b c d e f)
 have HY:=Lib.hid (show (∀ i,i<6→fixI ([a,b,c,d,e,f].getD i 0)=true)→R=true from fun h=>by
  rw [hR,List.all_eq_true]
  intro x hx
  obtain ⟨i,hi,rfl⟩:=List.getElem_of_mem hx
  have:=h i (by simpa using hi)
  rwa [getD_in _ hi] at this)
 have HN:=Lib.hid (show ∀ i,i<6→fixI ([a,b,c,d,e,f].getD i 0)=false→R=false from fun i hi h=>by
  rw [hR,List.all_eq_false]
  have hi':i<[a,b,c,d,e,f].length:=hi
  exact ⟨[a,b,c,d,e,f][i],List.getElem_mem hi',by rw [getD_in _ hi'] at h;simp only [h];decide⟩)
 clear hR
 have hL:=Holds.start w
 have n1:True:=trivial
 go_enter Tryz.func51,Tryz.ntmps51
 go_wp2_with (first|(with_reducible (clear hL n1;intro b1 w1 hL))|((with_reducible refine goJ rfl ?_);refine goW ?_))
 go_loopw [18] (fun s18 wr=>∃ k:Nat,k≤6∧s18=.int .i64 k∧(∀ i,i<k→fixI ([a,b,c,d,e,f].getD i 0)=true)∧Holds w wr [blk b1 #[.int .i64 a,.int .i64 b,.int .i64 c,.int .i64 d,.int .i64 e,.int .i64 f] 28] [])
  (fun s18 wr=>6-(intOf s18).toNat)
 case atStart=>exact ⟨0,by omega,rfl,fun i hi=>absurd hi (by omega),hL⟩
 case round =>
  clear hL
  obtain ⟨k,hk,rfl,hall,hL⟩:=hrel
  by_cases hkt:k<6
  ·have Hg:=Lib.hid (HG.out k hkt)
   have HNk:=Lib.hid (HN.out k hkt)
   have HS:=Lib.hid (show fixI ([a,b,c,d,e,f].getD k 0)=true→∀ i,i<k+1→fixI ([a,b,c,d,e,f].getD i 0)=true from fun h i hi=>by
    rcases (by omega:i<k∨i=k) with h2|rfl
    ·exact hall i h2
    ·exact h)
   clear hall
   have HF:=Lib.hid (fun w=>matFix_calls ([a,b,c,d,e,f].getD k 0) w)
   generalize [a,b,c,d,e,f].getD k 0=v at *
   cases hv:fixI v
   ·rw [hv] at HF
    have HR:=Lib.hid (HNk.out hv)
    clear hv
    go_wp2_with (first|((with_reducible refine wpA_index rfl _ _ _ rfl _ rfl _ rfl ?_);refine indexC (v:=.int .i64 v) ?_ (by omega) (by omega) Hg.out)|(go_at_call 88;(with_reducible refine (HF.out _).mono ?_);rintro e _ ⟨rfl,rfl⟩))
    go_ret
    exact ⟨ret_bool HR.out.symm,hL.below⟩
   ·rw [hv] at HF
    have HR:=Lib.hid (HS.out hv)
    clear hv
    go_wp2_with (first|((with_reducible refine wpA_index rfl _ _ _ rfl _ rfl _ rfl ?_);refine indexC (v:=.int .i64 v) ?_ (by omega) (by omega) Hg.out)|(go_at_call 88;(with_reducible refine (HF.out _).mono ?_);rintro e _ ⟨rfl,rfl⟩))
    go_roundw
    case rel=>exact ⟨k+1,by omega,by go_num,HR.out,hL⟩
    case measure=>simp [intOf];omega
  ·have e:k=6:=by omega
   subst e
   have HF:=Lib.hid (HY.out hall)
   clear hall
   go_wp2_with (first|(with_reducible (clear hL n1;intro b1 w1 hL))|((with_reducible refine goJ rfl ?_);refine goW ?_))
   go_ret
   exact ⟨ret_bool HF.out.symm,hL.below⟩
set_option maxRecDepth 100000 in
set_option maxHeartbeats 8000000 in
theorem imgRow_calls (i:Img) (hw:1≤i.W∧i.W≤64) (hb:i.bits=1∨i.bits=2∨i.bits=4∨i.bits=8) (w:World):Calls Tryz.prog 87 #[imgV i] w fun e w'=>e=.returned (.int .i64 (rowI i))∧Below w.heap.size w w':=by
 have hR:rowI i=(i.W*i.bits+7) / 8:=rfl
 have hB:0≤i.W*i.bits∧i.W*i.bits≤512:=by rcases hb with e|e|e|e <;> rw [e] <;> omega
 generalize rowI i=R at *
 obtain ⟨W,H,bits,data⟩:=i
 unfold imgV
 dsimp only at *
 clear hb
 have w1:IntKind.i64.wrap (W*bits)=W*bits:=wrapS (by omega) (by omega)
 have hd:(W*bits+7).tdiv 8=R:=by rw [hR,Int.tdiv_eq_ediv_of_nonneg (by omega)]
 have hRb:0≤R∧R≤64:=by omega
 clear hR
 generalize hn:W*bits=n at *
 have hL:=Holds.start w
 have n1:True:=trivial
 go_enter Tryz.func87,Tryz.ntmps87
 go_wp2_with (first|(with_reducible (clear hL n1;intro b1 w1 hL))|((with_reducible refine goJ rfl ?_);refine goW ?_))
 go_ret
 exact ⟨by first|rfl|(rw [←hd];go_num),hL.below⟩
theorem down_out {a b:Int} (hb:0<b):(a.tmod b<0∧a.fdiv b=a.tdiv b-1)∨(¬a.tmod b<0∧a.fdiv b=a.tdiv b):=by
 have h:=down_pos a b hb
 by_cases h1:a.tmod b<0
 ·rw [if_pos h1] at h;exact .inl ⟨h1,h.symm⟩
 ·rw [if_neg h1] at h;exact .inr ⟨h1,h.symm⟩
theorem tdiv_bd {a b:Int} (h1 : -4611686018427387904≤a) (h2:a≤4611686018427387904) : -4611686018427387904≤a.tdiv b∧a.tdiv b≤4611686018427387904:=by
 have h:=Int.natAbs_tdiv_le_natAbs a b
 generalize a.tdiv b=q at *
 omega
set_option maxRecDepth 100000 in
theorem imgDown_calls (a b:Int) (hb:b≠0) (h1 : -4611686018427387904≤a) (h2:a≤4611686018427387904) (h3 : -4611686018427387904≤b) (h4:b≤4611686018427387904) (w:World):Calls Tryz.prog 130 #[.int .i64 a,.int .i64 b] w fun e w'=>e=.returned (.int .i64 (a.fdiv b))∧w=w':=by
 by_cases hp:0<b
 ·have hd:=down_out (a:=a) hp
  have hq:=tdiv_bd (b:=b) h1 h2
  generalize a.fdiv b=R at *
  have m0:(b == 0)=false:=by simp;omega
  have m1:(b == -1)=false:=by simp;omega
  have m2:¬b<0:=by omega
  generalize hq2:a.tdiv b=q at *
  generalize hr2:a.tmod b=r at *
  have wq:IntKind.i64.wrap q=q:=wrapS (by omega) (by omega)
  rcases hd with ⟨hr,rfl⟩|⟨hr,rfl⟩
  ·have wq2:IntKind.i64.wrap (q-1)=q-1:=wrapS (by omega) (by omega)
   go_enter Tryz.func130,Tryz.ntmps130
   go_wp2
   go_ret
   exact ⟨by first|rfl|go_num,rfl⟩
  ·go_enter Tryz.func130,Tryz.ntmps130
   go_wp2
   go_ret
   exact ⟨by first|rfl|go_num,rfl⟩
 ·have e:=fdiv_negs a b (by omega)
  have hd:=down_out (a := -a) (b := -b) (by omega)
  have hq:=tdiv_bd (a := -a) (b := -b) (by omega) (by omega)
  rw [e] at hd
  clear e
  have wa:IntKind.i64.wrap (-a) = -a:=wrapS (by omega) (by omega)
  have wb:IntKind.i64.wrap (-b) = -b:=wrapS (by omega) (by omega)
  have m2:b<0:=by omega
  have m3:0 < -b:=by omega
  generalize a.fdiv b=R at *
  generalize ha : -a=a' at *
  generalize hbb : -b=b' at *
  have m0:(b' == 0)=false:=by simp;omega
  have m1:(b' == -1)=false:=by simp;omega
  generalize hq2:a'.tdiv b'=q at *
  generalize hr2:a'.tmod b'=r at *
  have wq:IntKind.i64.wrap q=q:=wrapS (by omega) (by omega)
  rcases hd with ⟨hr,rfl⟩|⟨hr,rfl⟩
  ·have wq2:IntKind.i64.wrap (q-1)=q-1:=wrapS (by omega) (by omega)
   go_enter Tryz.func130,Tryz.ntmps130
   go_wp2
   go_ret
   exact ⟨by first|rfl|go_num,rfl⟩
  ·go_enter Tryz.func130,Tryz.ntmps130
   go_wp2
   go_ret
   exact ⟨by first|rfl|go_num,rfl⟩
open Go.RowKit
theorem run_indexOp {P:Program} {o:Oper} {a:Act} {w:World} {T:TypeId} {x y:Operand} {u v:Value} {i:Int} (hr:IndexAt P T u i w fun r=>r=v) (ho:o.op=.index T x y:=by rfl) (hx:a.eval x=u:=by rfl) (hy:a.eval y=.int .i64 i:=by rfl):(execOp a.eval o).run P w=.ok (.value v) w:=by
 obtain ⟨r,hr,rfl⟩:=hr
 unfold execOp
 simp [ho,hx,hy,hr]
theorem bits_run {b:Int} {k n:Nat} (h0:0≤b) (h1:b≤255) (hn:n≤8):IntKind.i64.wrap (((BitVec.ofInt 64 (b.fdiv (2^k)) &&& BitVec.ofInt 64 (2^n-1)).toNat:Nat):Int)=b / 2^k%2^n:=by
 have hp:(0:Int)<2^k:=Int.pow_pos (by decide)
 rw [Int.fdiv_eq_ediv_of_nonneg b (by omega)]
 have hq0:0≤b / 2^k:=Int.ediv_nonneg h0 (by omega)
 have hq1:b / 2^k≤255:=Int.le_trans (Int.ediv_le_self _ h0) h1
 generalize b / 2^k=q at *
 obtain ⟨m,rfl⟩:=Int.eq_ofNat_of_zero_le hq0
 have e:((2:Int)^n-1)=((2^n-1:Nat):Int):=by
  have:1≤2^n:=Nat.one_le_two_pow
  rw [Int.ofNat_sub this]
  simp
 rw [e,BitVec.toNat_and]
 have e2:∀ t:Nat,t<2^64→(BitVec.ofInt 64 (t:Int)).toNat=t:=fun t ht=>by
  rw [BitVec.ofInt_natCast,BitVec.toNat_ofNat,Nat.mod_eq_of_lt ht]
 have hn2:2^n≤2^8:=Nat.pow_le_pow_right (by decide) hn
 rw [e2 m (by omega),e2 _ (by omega),Nat.and_two_pow_sub_one_eq_mod]
 have hn1:1≤2^n:=Nat.one_le_two_pow
 have h3:m%2^n<2^n:=Nat.mod_lt _ (by omega)
 rw [wrapS (by omega) (by omega)]
 simp
set_option maxRecDepth 100000 in
set_option maxHeartbeats 8000000 in
theorem imgSample_calls (i:Img) (ok:ImgOk i) (x y:Int) (w:World):Calls Tryz.prog 129 #[imgV i,.int .i64 x,.int .i64 y] w fun e w'=>e=.returned (.int .i64 (sampI i x y))∧Below w.heap.size w w':=by
 have hR:sampI i x y=if x<0∨i.W≤x∨y<0∨i.H≤y then -1 else byteI i.data (y*rowI i+x*i.bits / 8).toNat / 2^(8-i.bits-x*i.bits%8).toNat%2^i.bits.toNat:=rfl
 have hP:=fun hx hy=>place_bd ok (x:=x) (y:=y) hx hy
 have hS:=shift_bd ok x
 have HRow:=Lib.hid (fun w=>imgRow_calls i ok.w ok.bits w)
 have hr:=rowI_bd ok
 have hbits:=ok.bits
 have hw:=ok.w
 have hh:=ok.h
 have hB:∀ k,0≤byteI i.data k∧byteI i.data k≤255:=fun k=>byteI_bd _ k
 clear ok
 generalize sampI i x y=R at *
 generalize rowI i=ro at *
 obtain ⟨W,H,bits,data⟩:=i
 unfold imgV at *
 dsimp only at *
 have hL:=Holds.start w
 rcases (by omega:x<0∨(0≤x∧W≤x)∨(0≤x∧x<W∧y<0)∨(0≤x∧x<W∧0≤y∧H≤y)∨(0≤x∧x<W∧0≤y∧y<H)) with g1|⟨g1,g2⟩|⟨g1,g2,g3⟩|⟨g1,g2,g3,g4⟩|⟨g1,g2,g3,g4⟩
 ·have HR:=Lib.hid (show R = -1 by rw [hR,if_pos (by omega)])
  clear hR hP hS HRow hB hbits
  have c0:decide (x<0)=true:=by simp;omega
  have n1:True:=trivial
  go_enter Tryz.func129,Tryz.ntmps129
  go_wp2_with (first|(with_reducible (clear hL n1;intro b1 w1 hL))|((with_reducible refine goJ rfl ?_);refine goW ?_))
  go_ret
  exact ⟨ret_int HR.out.symm,hL.below⟩
 ·have HR:=Lib.hid (show R = -1 by rw [hR,if_pos (by omega)])
  clear hR hP hS HRow hB hbits
  have c0:decide (x<0)=false:=by simp;omega
  have c1:decide (W≤x)=true:=by simp;omega
  have n1:True:=trivial
  go_enter Tryz.func129,Tryz.ntmps129
  go_wp2_with (first|(with_reducible (clear hL n1;intro b1 w1 hL))|((with_reducible refine goJ rfl ?_);refine goW ?_))
  go_ret
  exact ⟨ret_int HR.out.symm,hL.below⟩
 ·have HR:=Lib.hid (show R = -1 by rw [hR,if_pos (by omega)])
  clear hR hP hS HRow hB hbits
  have c0:decide (x<0)=false:=by simp;omega
  have c1:decide (W≤x)=false:=by simp;omega
  have c2:decide (y<0)=true:=by simp;omega
  have n1:True:=trivial
  go_enter Tryz.func129,Tryz.ntmps129
  go_wp2_with (first|(with_reducible (clear hL n1;intro b1 w1 hL))|((with_reducible refine goJ rfl ?_);refine goW ?_))
  go_ret
  exact ⟨ret_int HR.out.symm,hL.below⟩
 ·have HR:=Lib.hid (show R = -1 by rw [hR,if_pos (by omega)])
  clear hR hP hS HRow hB hbits
  have c0:decide (x<0)=false:=by simp;omega
  have c1:decide (W≤x)=false:=by simp;omega
  have c2:decide (y<0)=false:=by simp;omega
  have c3:decide (H≤y)=true:=by simp;omega
  have n1:True:=trivial
  go_enter Tryz.func129,Tryz.ntmps129
  go_wp2_with (first|(with_reducible (clear hL n1;intro b1 w1 hL))|((with_reducible refine goJ rfl ?_);refine goW ?_))
  go_ret
  exact ⟨ret_int HR.out.symm,hL.below⟩
 have hP2:=hP ⟨g1,g2⟩ ⟨g3,g4⟩
 rw [if_neg (by omega)] at hR
 have hn0:0≤x*bits∧x*bits≤512:=by rcases hbits with e|e|e|e <;> rw [e] <;> omega
 have hy0:0≤y*ro∧y*ro≤10000:=by
  have:=Int.mul_le_mul (show y≤64 by omega) (show ro≤64 by omega) (by omega) (by omega)
  exact ⟨Int.mul_nonneg g3 (by omega),by omega⟩
 have w1:IntKind.i64.wrap (x*bits)=x*bits:=wrapS (by omega) (by omega)
 have w2:IntKind.i64.wrap (y*ro)=y*ro:=wrapS (by omega) (by omega)
 have d1:(x*bits).tdiv 8=x*bits / 8:=Int.tdiv_eq_ediv_of_nonneg (by omega)
 have d2:(x*bits).tmod 8=x*bits%8:=Int.tmod_eq_emod_of_nonneg (by omega)
 clear hP
 generalize hxn:x*bits=n at *
 generalize hyr:y*ro=yr at *
 have Hd1:=Lib.hid d1
 have Hd2:=Lib.hid d2
 clear d1 d2
 have hq:0≤n / 8∧n / 8≤64:=by omega
 have hm:0≤n%8∧n%8≤7:=by omega
 generalize hqq:n / 8=q at *
 generalize hmm:n%8=m at *
 have d1:=Hd1.out
 have d2:=Hd2.out
 clear Hd1 Hd2 hqq hmm
 have HIx:=Lib.hid (fun (w:World) (K:Value→Prop) (h:K (.int .u8 (byteI data (yr+q).toNat)))=>indexStr (P:=Tryz.prog) (w:=w) (T:=9) (s:=data) (i:=yr+q) Tryz.underlying9 hP2.1 hP2.2 h)
 have hB2:=hB (yr+q).toNat
 clear hB
 generalize byteI data (yr+q).toNat=by1 at *
 have w3:IntKind.i64.wrap by1=by1:=wrapS (by omega) (by omega)
 have w4:IntKind.i64.wrap (yr+q)=yr+q:=wrapS (by omega) (by omega)
 have w5:IntKind.i64.wrap (8-bits)=8-bits:=wrapS (by omega) (by omega)
 have w6:IntKind.i64.wrap (8-bits-m)=8-bits-m:=wrapS (by omega) (by omega)
 have w7:IntKind.i64.wrap q=q:=wrapS (by omega) (by omega)
 have w8:IntKind.i64.wrap m=m:=wrapS (by omega) (by omega)
 have hs0:¬8-bits-m<0:=by omega
 have hb0:¬bits<0:=by omega
 have hmi:min (8-bits-m).toNat 64=(8-bits-m).toNat:=by omega
 have hmj:min bits.toNat 64=bits.toNat:=by omega
 have hpw:IntKind.i64.wrap ((2:Int)^bits.toNat)=2^bits.toNat∧IntKind.i64.wrap ((2:Int)^bits.toNat-1)=2^bits.toNat-1:=by rcases hbits with e|e|e|e <;> subst e <;> decide
 obtain ⟨hp1,hp2⟩:=hpw
 have Hbr:=Lib.hid (show Go.bits .and .i64 (by1 / 2^(8-bits-m).toNat) (2^bits.toNat-1)=R from by
  rw [hR,←bits_run (k:=(8-bits-m).toNat) hB2.1 hB2.2 (show bits.toNat≤8 by omega),Int.fdiv_eq_ediv_of_nonneg by1 (Int.le_of_lt (Int.pow_pos (by decide)))]
  rfl)
 clear hR
 have c0:decide (x<0)=false:=by simp;omega
 have c1:decide (W≤x)=false:=by simp;omega
 have c2:decide (y<0)=false:=by simp;omega
 have c3:decide (H≤y)=false:=by simp;omega
 have n1:True:=trivial
 go_enter Tryz.func129,Tryz.ntmps129
 go_wp2_with (first|(with_reducible (clear hL n1;intro b1 w1 hL))|((with_reducible refine goJ rfl ?_);refine goW ?_))
 refine wpH_holds (by kernel_rfl) hL fun hS=>?_
 replace hL:=hS
 refine deH 0 hS ?_
 refine dlH 1 ?_ hS (fun w' hw=>?_) ?_;rotate_left;(· (first|refine loadA hw ?_|refine loadP hw ?_);rfl)
 simp only [Act.put,setP]
 refine deH 2 hS ?_
 refine dlH 3 ?_ hS (fun w' hw=>?_) ?_;rotate_left;(· refine loadR hw ?_;rfl)
 simp only [Act.put,setP]
 refine deH 6 hS ?_
 refine deH 7 hS ?_
 refine wpH_one (i:=4) (by kernel_rfl) (wpOf ?_)
 refine st_call rfl _ _ ?_ (HRow.out _) ?_
 (· go_simp;try with_reducible rfl)
 rintro e _ ⟨rfl,hb⟩
 replace hL:=hL.call hb
 replace hS:=hS.call hb
 clear hb
 refine ⟨_,rfl,hS,?_⟩
 simp only [Act.put,setP]
 refine deH 5 hS ?_
 refine deH 8 hS ?_
 refine stH (i:=9) ?_ hS (fun w' hw=>?_) ?_;rotate_left;(· refine run_indexOp (HIx.out _ _ ?_);rfl)
 simp only [Act.put,setP]
 refine deH 10 hS ?_
 refine deH 11 hS ?_
 refine wpAnyH_done (by kernel_rfl) ?_ _
 clear hS
 go_wp2_with (first|(with_reducible (clear hL n1;intro b1 w1 hL))|((with_reducible refine goJ rfl ?_);refine goW ?_))
 refine wpH_holds (by kernel_rfl) hL fun hS=>?_
 replace hL:=hS
 refine deH 0 hS ?_
 refine deH 1 hS ?_
 refine dlH 2 ?_ hS (fun w' hw=>?_) ?_;rotate_left;(· refine loadA hw ?_;rfl)
 simp only [Act.put,setP]
 refine deH 3 hS ?_
 refine deH 4 hS ?_
 refine deH 5 hS ?_
 refine deH 6 hS ?_
 refine deH 7 hS ?_
 refine deH 8 hS ?_
 refine dlH 9 ?_ hS (fun w' hw=>?_) ?_;rotate_left;(· refine loadA hw ?_;rfl)
 simp only [Act.put,setP]
 refine deH 10 hS ?_
 refine deH 11 hS ?_
 refine deH 12 hS ?_
 refine deH 13 hS ?_
 refine wpAnyH_done (by kernel_rfl) ?_ _
 clear hS
 go_wp2_with (first|(with_reducible (clear hL n1;intro b1 w1 hL))|((with_reducible refine goJ rfl ?_);refine goW ?_))
 go_ret
 exact ⟨ret_int Hbr.out,hL.below⟩
def viewV (i:Img) (m:Mtx) (D:Int):Value:=.agg #[.int .i64 i.W,.int .i64 i.H,.int .i64 i.bits,.string i.data,.int .i64 m.a,.int .i64 m.b,.int .i64 m.c,.int .i64 m.d,.int .i64 m.e,.int .i64 m.f,.int .i64 D]
set_option maxRecDepth 100000 in
set_option maxHeartbeats 8000000 in
theorem viewAt_calls (i:Img) (ok:ImgOk i) (m:Mtx) (hm:mayMtx m=true) (hD:detM m≠0) (x y:Int) (hx : -8191≤x∧x≤8191) (hy : -8191≤y∧y≤8191) (w:World):Calls Tryz.prog 96 #[viewV i m (detM m),.int .i64 x,.int .i64 y] w fun e w'=>e=.returned (.int .i64 (atI i m x y))∧Below w.heap.size w w':=by
 have hR:atI i m x y=sampI i ((m.d*(x*65536-m.e)-m.c*(y*65536-m.f)).fdiv (detM m)) ((m.a*(y*65536-m.f)-m.b*(x*65536-m.e)).fdiv (detM m)):=rfl
 obtain ⟨f1,f2,f3,f4,f5,f6⟩:=fix_bd hm
 have hdb:=det_bd hm
 generalize detM m=D at *
 have HSm:=Lib.hid (fun w x y=>imgSample_calls i ok x y w)
 generalize atI i m x y=R at *
 obtain ⟨W,H,bits,data⟩:=i
 obtain ⟨a,b,c,d,e,f⟩:=m
 unfold viewV
 unfold imgV at *
 dsimp only at *
 clear hm ok
 generalize hp:x*65536-e=p at *
 generalize hq:y*65536-f=q at *
 have bp : -1610612736≤p∧p≤1610612736:=by omega
 have bq : -1610612736≤q∧q≤1610612736:=by omega
 obtain ⟨g1,g2⟩:=way_bd f4 f3 bp bq rfl
 obtain ⟨g3,g4⟩:=way_bd f1 f2 bq bp rfl
 generalize hdp:d*p=dp at *
 generalize hcq:c*q=cq at *
 generalize haq:a*q=aq at *
 generalize hbp:b*p=bp1 at *
 have HD1:=Lib.hid (fun w=>imgDown_calls (dp-cq) D hD (by omega) (by omega) (by omega) (by omega) w)
 have HD2:=Lib.hid (fun w=>imgDown_calls (aq-bp1) D hD (by omega) (by omega) (by omega) (by omega) w)
 generalize (dp-cq).fdiv D=X at *
 generalize (aq-bp1).fdiv D=Y at *
 have w1:IntKind.i64.wrap dp=dp:=wrapS (by omega) (by omega)
 have w2:IntKind.i64.wrap cq=cq:=wrapS (by omega) (by omega)
 have w3:IntKind.i64.wrap aq=aq:=wrapS (by omega) (by omega)
 have w4:IntKind.i64.wrap bp1=bp1:=wrapS (by omega) (by omega)
 have w5:IntKind.i64.wrap (dp-cq)=dp-cq:=wrapS (by omega) (by omega)
 have w6:IntKind.i64.wrap (aq-bp1)=aq-bp1:=wrapS (by omega) (by omega)
 have w7:IntKind.i64.wrap (x*65536)=x*65536:=wrapS (by omega) (by omega)
 have w8:IntKind.i64.wrap (y*65536)=y*65536:=wrapS (by omega) (by omega)
 have w9:IntKind.i64.wrap p=p:=wrapS (by omega) (by omega)
 have w10:IntKind.i64.wrap q=q:=wrapS (by omega) (by omega)
 have HS:=Lib.hid (fun w=>HSm.out w X Y)
 rw [←hR] at HS
 clear hR HSm
 have c0:decide (D=0)=false:=by simp;omega
 have c1:decide (x < -8191)=false:=by simp;omega
 have c2:decide (8191<x)=false:=by simp;omega
 have c3:decide (y < -8191)=false:=by simp;omega
 have c4:decide (8191<y)=false:=by simp;omega
 have hL:=Holds.start w
 have n1:True:=trivial
 go_enter Tryz.func96,Tryz.ntmps96
 go_wp2_with (first|(with_reducible (clear hL n1;intro b1 w1 hL))|((with_reducible refine goJ rfl ?_);refine goW ?_))
 refine wpH_holds (by kernel_rfl) hL fun hS=>?_
 replace hL:=hS
 refine deH 0 hS ?_
 refine deH 1 hS ?_
 refine deH 2 hS ?_
 refine deH 3 hS ?_
 refine dlH 4 ?_ hS (fun w' hw=>?_) ?_;rotate_left;(· refine loadA hw ?_;rfl)
 simp only [Act.put,setP]
 refine deH 5 hS ?_
 refine deH 6 hS ?_
 refine deH 7 hS ?_
 refine deH 8 hS ?_
 refine deH 9 hS ?_
 refine dlH 10 ?_ hS (fun w' hw=>?_) ?_;rotate_left;(· refine loadA hw ?_;rfl)
 simp only [Act.put,setP]
 refine deH 11 hS ?_
 refine deH 12 hS ?_
 refine deH 13 hS ?_
 refine wpAnyH_done (by kernel_rfl) ?_ _
 clear hS
 go_wp2_with (first|(with_reducible (clear hL n1;intro b1 w1 hL))|((with_reducible refine goJ rfl ?_);refine goW ?_))
 refine wpH_holds (by kernel_rfl) hL fun hS=>?_
 replace hL:=hS
 refine deH 0 hS ?_
 refine dlH 1 ?_ hS (fun w' hw=>?_) ?_;rotate_left;(· (first|refine loadA hw ?_|refine loadP hw ?_);rfl)
 simp only [Act.put,setP]
 refine deH 2 hS ?_
 refine deH 3 hS ?_
 refine dlH 4 ?_ hS (fun w' hw=>?_) ?_;rotate_left;(· refine loadA hw ?_;rfl)
 simp only [Act.put,setP]
 refine deH 5 hS ?_
 refine deH 6 hS ?_
 refine deH 7 hS ?_
 refine deH 8 hS ?_
 refine dlH 9 ?_ hS (fun w' hw=>?_) ?_;rotate_left;(· refine loadA hw ?_;rfl)
 simp only [Act.put,setP]
 refine deH 10 hS ?_
 refine deH 11 hS ?_
 refine deH 12 hS ?_
 refine deH 13 hS ?_
 refine dlH 14 ?_ hS (fun w' hw=>?_) ?_;rotate_left;(· refine loadA hw ?_;rfl)
 simp only [Act.put,setP]
 refine deH 16 hS ?_
 refine deH 17 hS ?_
 refine dlH 18 ?_ hS (fun w' hw=>?_) ?_;rotate_left;(· refine loadA hw ?_;rfl)
 simp only [Act.put,setP]
 refine deH 19 hS ?_
 refine deH 20 hS ?_
 refine deH 21 hS ?_
 refine deH 22 hS ?_
 refine dlH 23 ?_ hS (fun w' hw=>?_) ?_;rotate_left;(· refine loadA hw ?_;rfl)
 simp only [Act.put,setP]
 refine deH 24 hS ?_
 refine deH 25 hS ?_
 refine deH 26 hS ?_
 refine deH 27 hS ?_
 refine dlH 28 ?_ hS (fun w' hw=>?_) ?_;rotate_left;(· refine loadA hw ?_;rfl)
 simp only [Act.put,setP]
 refine wpH_one (i:=15) (by kernel_rfl) (wpOf ?_)
 refine st_call rfl _ _ ?_ (HD1.out _) ?_
 (· go_simp;try with_reducible rfl)
 rintro e _ ⟨rfl,rfl⟩
 refine ⟨_,rfl,hS,?_⟩
 simp only [Act.put,setP]
 refine wpH_one (i:=29) (by kernel_rfl) (wpOf ?_)
 refine st_call rfl _ _ ?_ (HD2.out _) ?_
 (· go_simp;try with_reducible rfl)
 rintro e _ ⟨rfl,rfl⟩
 refine ⟨_,rfl,hS,?_⟩
 simp only [Act.put,setP]
 refine wpH_one (i:=30) (by kernel_rfl) (wpOf ?_)
 refine st_call rfl _ _ ?_ (HS.out _) ?_
 (· go_simp;try with_reducible rfl)
 rintro e _ ⟨rfl,hb⟩
 replace hL:=hL.call hb
 replace hS:=hS.call hb
 clear hb
 refine ⟨_,rfl,hS,?_⟩
 simp only [Act.put,setP]
 refine deH 31 hS ?_
 refine wpAnyH_done (by kernel_rfl) ?_ _
 clear hS
 go_wp2_with (first|(with_reducible (clear hL n1;intro b1 w1 hL))|((with_reducible refine goJ rfl ?_);refine goW ?_))
 go_ret
 exact ⟨rfl,hL.below⟩
open Go.RowKit
theorem rowI_bd1 {i:Img} (hw:1≤i.W∧i.W≤64) (hb:i.bits=1∨i.bits=2∨i.bits=4∨i.bits=8):1≤rowI i∧rowI i≤64:=by
 unfold rowI
 rcases hb with e|e|e|e <;> rw [e] <;> omega
theorem bits_cases (v:Int):(v=1∨v=2∨v=4∨v=8)∨(v≠1∧v≠2∧v≠4∧v≠8):=by omega
theorem four_ways:∀ b0 b1 b2 b3:Bool,b0=false∨(b0=true∧b1=false)∨(b0=true∧b1=true∧b2=false)∨(b0=true∧b1=true∧b2=true∧b3=false)∨(b0=true∧b1=true∧b2=true∧b3=true):=by decide
set_option maxRecDepth 100000 in
set_option maxHeartbeats 16000000 in
theorem imgMay_calls (i:Img) (hl:i.data.size≤maxLen) (w:World):Calls Tryz.prog 50 #[imgV i] w fun e w'=>e=.returned (.bool (mayImg i))∧Below w.heap.size w w':=by
 have hR:mayImg i=((decide (i.bits=1) || (decide (i.bits=2) || (decide (i.bits=4) || decide (i.bits=8))))&&((decide (1≤i.W)&&decide (i.W≤64))&&((decide (1≤i.H)&&decide (i.H≤64))&&decide ((i.data.size:Int)=i.H*rowI i)))):=rfl
 have hRow:=fun h1 h2 w=>imgRow_calls i h1 h2 w
 have hrb:=fun h1 h2=>rowI_bd1 (i:=i) h1 h2
 unfold maxLen at hl
 generalize mayImg i=R at *
 generalize rowI i=ro at *
 obtain ⟨W,H,bits,data⟩:=i
 unfold imgV at *
 dsimp only at *
 have hsz:(data.size:Int)≤9223372036854775807:=by omega
 have hL:=Holds.start w
 rcases bits_cases bits with hb|⟨h1,h2,h4,h8⟩
 ·have hbb:(decide (bits=1) || (decide (bits=2) || (decide (bits=4) || decide (bits=8))))=true:=by rcases hb with e|e|e|e <;> subst e <;> rfl
  rw [hbb,Bool.true_and] at hR
  obtain ⟨b0,c0⟩:∃ b,decide (1≤W)=b:=⟨_,rfl⟩
  obtain ⟨b1,c1⟩:∃ b,decide (W≤64)=b:=⟨_,rfl⟩
  obtain ⟨b2,c2⟩:∃ b,decide (1≤H)=b:=⟨_,rfl⟩
  obtain ⟨b3,c3⟩:∃ b,decide (H≤64)=b:=⟨_,rfl⟩
  have HRow:=Lib.hid (fun (h0:b0=true) (h1:b1=true) w=>hRow ⟨of_decide_eq_true (c0.trans h0),of_decide_eq_true (c1.trans h1)⟩ hb w)
  have hwr:b0=true→b1=true→b2=true→b3=true→IntKind.i64.wrap (H*ro)=H*ro:=fun h0 h1 h2 h3=>by
   have g0:=of_decide_eq_true (c0.trans h0)
   have g1:=of_decide_eq_true (c1.trans h1)
   have g2:=of_decide_eq_true (c2.trans h2)
   have g3:=of_decide_eq_true (c3.trans h3)
   have g4:=hrb ⟨g0,g1⟩ hb
   have:=Int.mul_le_mul (show H≤64 by omega) (show ro≤64 by omega) (by omega) (by omega)
   have h5:0≤H*ro:=Int.mul_nonneg (by omega) (by omega)
   exact wrapS (by omega) (by omega)
  rw [c0,c1,c2,c3] at hR
  clear hRow hrb hbb
  generalize hHr:H*ro=hr at *
  have HR:=Lib.hid hR
  clear hR
  rcases four_ways b0 b1 b2 b3 with rfl|⟨rfl,rfl⟩|⟨rfl,rfl,rfl⟩|⟨rfl,rfl,rfl,rfl⟩|⟨rfl,rfl,rfl,rfl⟩ <;> rcases hb with rfl|rfl|rfl|rfl
  all_goals
   have n1:True:=trivial
   go_enter Tryz.func50,Tryz.ntmps50
   go_wp2_with (first|(with_reducible (clear hL n1;intro b1 w1 hL))|((with_reducible refine goJ rfl ?_);refine goW ?_))
   refine wpH_holds (by kernel_rfl) hL fun hS=>?_
   replace hL:=hS
   refine deH 0 hS ?_
   refine dlH 1 ?_ hS (fun w' hw=>?_) ?_;rotate_left;(· (first|refine loadA hw ?_|refine loadP hw ?_);rfl)
   simp only [Act.put,setP]
   refine deH 2 hS ?_
   refine deH 3 hS ?_
   first|(refine stH (i:=4) ?_ hS (fun w' hw=>?_) ?_;rotate_left;(· go_simp;try with_reducible rfl))|refine skH (i:=4) hS ?_
   simp only [Act.put,setP]
   first|(refine dlH 5 ?_ hS (fun w' hw=>?_) ?_;rotate_left;(· refine loadA hw ?_;rfl))|refine skH (i:=5) hS ?_
   simp only [Act.put,setP]
   first|(refine stH (i:=6) ?_ hS (fun w' hw=>?_) ?_;rotate_left;(· go_simp;try with_reducible rfl))|refine skH (i:=6) hS ?_
   simp only [Act.put,setP]
   refine deH 7 hS ?_
   refine deH 8 hS ?_
   first|(refine stH (i:=9) ?_ hS (fun w' hw=>?_) ?_;rotate_left;(· go_simp;try with_reducible rfl))|refine skH (i:=9) hS ?_
   simp only [Act.put,setP]
   first|(refine dlH 10 ?_ hS (fun w' hw=>?_) ?_;rotate_left;(· refine loadA hw ?_;rfl))|refine skH (i:=10) hS ?_
   simp only [Act.put,setP]
   first|(refine stH (i:=11) ?_ hS (fun w' hw=>?_) ?_;rotate_left;(· go_simp;try with_reducible rfl))|refine skH (i:=11) hS ?_
   simp only [Act.put,setP]
   refine deH 12 hS ?_
   refine deH 13 hS ?_
   first|(refine stH (i:=14) ?_ hS (fun w' hw=>?_) ?_;rotate_left;(· go_simp;try with_reducible rfl))|refine skH (i:=14) hS ?_
   simp only [Act.put,setP]
   first|(refine dlH 15 ?_ hS (fun w' hw=>?_) ?_;rotate_left;(· refine loadA hw ?_;rfl))|refine skH (i:=15) hS ?_
   simp only [Act.put,setP]
   first|(refine stH (i:=16) ?_ hS (fun w' hw=>?_) ?_;rotate_left;(· go_simp;try with_reducible rfl))|refine skH (i:=16) hS ?_
   simp only [Act.put,setP]
   refine deH 17 hS ?_
   refine deH 18 hS ?_
   first|(refine stH (i:=19) ?_ hS (fun w' hw=>?_) ?_;rotate_left;(· go_simp;try with_reducible rfl))|refine skH (i:=19) hS ?_
   simp only [Act.put,setP]
   first|(refine dlH 20 ?_ hS (fun w' hw=>?_) ?_;rotate_left;(· refine loadA hw ?_;rfl))|refine skH (i:=20) hS ?_
   simp only [Act.put,setP]
   first|(refine stH (i:=21) ?_ hS (fun w' hw=>?_) ?_;rotate_left;(· go_simp;try with_reducible rfl))|refine skH (i:=21) hS ?_
   simp only [Act.put,setP]
   first|(refine stH (i:=22) ?_ hS (fun w' hw=>?_) ?_;rotate_left;(· go_simp;try with_reducible rfl))|refine skH (i:=22) hS ?_
   simp only [Act.put,setP]
   first|(refine dlH 23 ?_ hS (fun w' hw=>?_) ?_;rotate_left;(· refine loadA hw ?_;rfl))|refine skH (i:=23) hS ?_
   simp only [Act.put,setP]
   first|(refine dlH 24 ?_ hS (fun w' hw=>?_) ?_;rotate_left;(· refine loadR hw ?_;rfl))|refine skH (i:=24) hS ?_
   simp only [Act.put,setP]
   first|(refine skH (i:=25) hS ?_;simp only [Act.put,setP])|(refine wpH_one (i:=25) (by kernel_rfl) (wpOf ?_);refine st_call rfl _ _ ?_ (HRow.out (by trivial) (by trivial) _) ?_;(· go_simp;try with_reducible rfl);rintro e _ ⟨rfl,hb⟩;replace hL:=hL.call hb;replace hS:=hS.call hb;clear hb;refine ⟨_,rfl,hS,?_⟩;simp only [Act.put,setP])
   first|(refine stH (i:=26) ?_ hS (fun w' hw=>?_) ?_;rotate_left;(· go_simp;try with_reducible rfl))|refine skH (i:=26) hS ?_
   simp only [Act.put,setP]
   first|(refine stH (i:=27) ?_ hS (fun w' hw=>?_) ?_;rotate_left;(· go_simp;try with_reducible rfl))|refine skH (i:=27) hS ?_
   simp only [Act.put,setP]
   refine deH 28 hS ?_
   refine deH 29 hS ?_
   refine wpAnyH_done (by kernel_rfl) ?_ _
   clear hS
   go_wp2_with (first|(with_reducible (clear hL n1;intro b1 w1 hL))|((with_reducible refine goJ rfl ?_);refine goW ?_))
   go_ret
   exact ⟨ret_bool (by rw [HR.out];rfl),hL.below⟩
 ·have HR:=Lib.hid (show R=false by rw [hR];simp [h1,h2,h4,h8])
  clear hR hRow hrb
  have n1:True:=trivial
  go_enter Tryz.func50,Tryz.ntmps50
  go_wp2_with (first|(with_reducible (clear hL n1;intro b1 w1 hL))|((with_reducible refine goJ rfl ?_);refine goW ?_))
  go_ret
  exact ⟨ret_bool HR.out.symm,hL.below⟩
set_option maxRecDepth 100000 in
set_option maxHeartbeats 8000000 in
theorem imgLook_calls (i:Img) (hl:i.data.size≤maxLen) (hi:mayImg i=true) (m:Mtx) (hm:mayMtx m=true) (w:World):Calls Tryz.prog 95 #[imgV i,mtxV m] w fun e w'=>e=.returned (.tuple #[viewV i m (detM m),.bool true])∧Below w.heap.size w w':=by
 have HI:=Lib.hid (fun w=>imgMay_calls i hl w)
 have HM:=Lib.hid (fun w=>matMay_calls m w)
 rw [hi] at HI
 rw [hm] at HM
 obtain ⟨f1,f2,f3,f4,f5,f6⟩:=fix_bd hm
 have e1:=mul_bd f1.1 f1.2 f4.1 f4.2
 have e2:=mul_bd f2.1 f2.2 f3.1 f3.2
 have hD:detM m=m.a*m.d-m.b*m.c:=rfl
 generalize detM m=D at *
 obtain ⟨W,H,bits,data⟩:=i
 obtain ⟨a,b,c,d,e,f⟩:=m
 unfold viewV
 unfold imgV mtxV at *
 dsimp only at *
 clear hi hm hl
 generalize had:a*d=ad at *
 generalize hbc:b*c=bc at *
 have w1:IntKind.i64.wrap ad=ad:=wrapS (by omega) (by omega)
 have w2:IntKind.i64.wrap bc=bc:=wrapS (by omega) (by omega)
 have hD2:=hD.symm
 have w3:IntKind.i64.wrap D=D:=wrapS (by omega) (by omega)
 clear hD
 have hL:=Holds.start w
 obtain ⟨n1,n2,n3⟩:=tok3
 go_enter Tryz.func95,Tryz.ntmps95
 go_wp2_with (first|(go_at_call 50;(with_reducible refine (HI.out _).mono ?_);rintro e _ ⟨rfl,hb⟩;replace hL:=hL.call hb;clear hb)|(go_at_call 51;(with_reducible refine (HM.out _).mono ?_);rintro e _ ⟨rfl,hb⟩;replace hL:=hL.call hb;clear hb)|(with_reducible first|(clear hL n1;intro b1 w1 hL)|(clear hL n2;intro b2 w2 hL)|(clear hL n3;intro b3 w3 hL)|(clear hL;intro _ hL))|((with_reducible refine goJ rfl ?_);refine goW ?_))
 refine bodyPost_ret (results_row2 inferInstance rfl _ hL b3 rfl _ _ .here rfl) rfl ⟨rfl,hL.below⟩
set_option maxRecDepth 100000 in
set_option maxHeartbeats 8000000 in
theorem imgAt_calls (i:Img) (hl:i.data.size≤maxLen) (hi:mayImg i=true) (m:Mtx) (hm:mayMtx m=true) (hD:detM m≠0) (x y:Int) (hx : -8191≤x∧x≤8191) (hy : -8191≤y∧y≤8191) (w:World):Calls Tryz.prog 230 #[imgV i,mtxV m,.int .i64 x,.int .i64 y] w fun e w'=>e=.returned (.int .i64 (atI i m x y))∧Below w.heap.size w w':=by
 have HK:=Lib.hid (fun w=>imgLook_calls i hl hi m hm w)
 have HV:=Lib.hid (fun w=>viewAt_calls i (mayImg_ok hi) m hm hD x y hx hy w)
 generalize atI i m x y=R at *
 generalize detM m=D at *
 obtain ⟨W,H,bits,data⟩:=i
 obtain ⟨a,b,c,d,e,f⟩:=m
 unfold viewV imgV mtxV at *
 dsimp only at *
 clear hi hm hl hD hx hy
 have hL:=Holds.start w
 obtain ⟨n1,n2,n3⟩:=tok3
 go_enter Tryz.func230,Tryz.ntmps230
 go_wp2_with (first|(go_at_call 95;(with_reducible refine (HK.out _).mono ?_);rintro e _ ⟨rfl,hb⟩;replace hL:=hL.call hb;clear hb)|(go_at_call 96;(with_reducible refine (HV.out _).mono ?_);rintro e _ ⟨rfl,hb⟩;replace hL:=hL.call hb;clear hb)|(with_reducible first|(clear hL n1;intro b1 w1 hL)|(clear hL n2;intro b2 w2 hL)|(clear hL n3;intro b3 w3 hL)|(clear hL;intro _ hL))|((with_reducible refine goJ rfl ?_);refine goW ?_))
 go_ret
 exact ⟨rfl,hL.below⟩
end Go.Proofs.YtmnoeoecjfhhbaaGreat
