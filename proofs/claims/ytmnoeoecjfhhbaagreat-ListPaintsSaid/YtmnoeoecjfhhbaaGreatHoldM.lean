/- Classes by which a walk finds what a type's zero value, size and shape are; arrays of sixty-four places, and of numbers, as functions. -/
import Derived.WalkKit
import Derived.WalkSpells
import Derived.WalkLawsBesides
import Derived.Lib.Hide
import Derived.Deep.MidRow
import Derived.Deep.AppendLies
import Derived.KernelRfl
namespace Go.Proofs.YtmnoeoecjfhhbaaGreat
open Go.RowKit
theorem setP {α:Type}:(∀ (l:List α) (i:Nat) (a:α),l.toArray.setIfInBounds i a=(l.set i a).toArray)∧(∀ (x a:α) (xs:List α),(x::xs).set 0 a=a::xs)∧∀ (x a:α) (xs:List α) (n:Nat),(x::xs).set (n+1) a=x::xs.set n a:=⟨by simp,by simp,by simp⟩
structure Res where
 foot:Option Nat
 ok:World→Prop
 loc:∀ w w':World,(∀ b,foot=some b→w'.heap[b]?=w.heap[b]?)→ok w→ok w'
 lt:∀ w b,foot=some b→ok w→b<w.heap.size
def blk (b:Nat) (cs:Array Value) (T:TypeId):Res where
 foot:=some b
 ok w:=w.heap[b]?=some (.cells cs T (0,0))
 loc w w' h k:=by rw [h b rfl];exact k
 lt w b' h k:=by
  cases h
  exact (Array.getElem?_eq_some_iff.1 k).1
def own (B:Nat) (e:TypeId) (size:Nat) (v:Value) (n:Nat) (xs:List Value):Res where
 foot:=v.ownBlock
 ok w:=w.ownsRow B e size v n xs
 loc w w' h k:=by
  refine ⟨k.1,?_⟩
  rcases k.2 with hn|⟨g,cap,cur,rfl,hb,hgg,rest⟩
  ·exact .inl hn
  ·exact .inr ⟨g,cap,cur,rfl,hb,by rw [h g rfl];exact hgg,rest⟩
 lt w b h k:=(k.lt b h).2
def Upd (M:List Res) (r r':Res) (M':List Res):Prop:=∃ p q,M=p++r::q∧M'=p++r'::q
theorem Upd.here {r r':Res} {M:List Res}:Upd (r::M) r r' (r'::M):=⟨[],M,rfl,rfl⟩
theorem Upd.there {s r r':Res} {M M':List Res} (h:Upd M r r' M'):Upd (s::M) r r' (s::M'):=by
 obtain ⟨p,q,rfl,rfl⟩:=h;exact ⟨s::p,q,rfl,rfl⟩
def Rem (M:List Res) (r:Res) (M':List Res):Prop:=∃ p q,M=p++r::q∧M'=p++q
theorem Rem.here {r:Res} {M:List Res}:Rem (r::M) r M:=⟨[],M,rfl,rfl⟩
theorem Rem.there {s r:Res} {M M':List Res} (h:Rem M r M'):Rem (s::M) r (s::M'):=by
 obtain ⟨p,q,rfl,rfl⟩:=h;exact ⟨s::p,q,rfl,rfl⟩
def At (M:List Res) (r:Res):Prop:=r∈M
theorem At.here {r:Res} {M:List Res}:At (r::M) r:=List.mem_cons_self
theorem At.there {s r:Res} {M:List Res} (h:At M r):At (s::M) r:=List.mem_cons_of_mem _ h
def Fresh (w w':World) (φ:World→Prop):Prop :=
 ∃ F:Nat→Prop,(∀ b,F b→w.heap.size≤b∧b<w'.heap.size)∧∀ w2:World,(∀ b,F b→w2.heap[b]?=w'.heap[b]?)→φ w2
theorem Fresh.now {w w':World} {φ:World→Prop} (h:Fresh w w' φ):φ w':=by
 obtain ⟨F,_,h⟩:=h;exact h w' fun _ _=>rfl
theorem Fresh.mono {w w':World} {φ ψ:World→Prop} (h:Fresh w w' φ) (k:∀ w,φ w→ψ w):Fresh w w' ψ:=by
 obtain ⟨F,h1,h⟩:=h;exact ⟨F,h1,fun w2 h2=>k _ (h w2 h2)⟩
theorem Fresh.triv (w w':World) {φ:World→Prop} (h:∀ w,φ w):Fresh w w' φ:=⟨fun _=>False,fun _ h=>h.elim,fun w2 _=>h w2⟩
theorem Fresh.and {w w':World} {φ ψ:World→Prop} (h:Fresh w w' φ) (k:Fresh w w' ψ):Fresh w w' (fun w=>φ w∧ψ w):=by
 obtain ⟨F,h1,h2⟩:=h;obtain ⟨G,k1,k2⟩:=k
 exact ⟨fun b=>F b∨G b,fun b hb=>hb.elim (h1 b) (k1 b),fun w2 e=>⟨h2 w2 fun b hb=>e b (.inl hb),k2 w2 fun b hb=>e b (.inr hb)⟩⟩
def Firm (w0 w:World) (M:List Res) (φ:World→Prop):Prop :=
 ∃ F:Nat→Prop,(∀ b,F b→w0.heap.size≤b∧b<w.heap.size∧∀ r∈M,r.foot≠some b)∧∀ w2:World,(∀ b,F b→w2.heap[b]?=w.heap[b]?)→φ w2
structure Holds (w0 w:World) (M:List Res) (Φ:List (World→Prop)):Prop where
 below:Below w0.heap.size w0 w
 ok:∀ r∈M,r.ok w
 low:∀ r∈M,∀ b,r.foot=some b→w0.heap.size≤b
 apart:M.Pairwise fun r s=>∀ b,r.foot=some b→s.foot≠some b
 firm:∀ φ∈Φ,Firm w0 w M φ
theorem Holds.start (w:World):Holds w w [] [] :=
 ⟨Below.refl _ _,fun _ h=>(by cases h),fun _ h=>(by cases h),List.Pairwise.nil,fun _ h=>(by cases h)⟩
section
variable {w0 w w' : World} {M M' : List Res} {Φ : List (World → Prop)} {r r' : Res} {φ ψ : World → Prop}
theorem Holds.size (h:Holds w0 w M Φ):w0.heap.size≤w.heap.size:=h.below.size
theorem Holds.at (h:Holds w0 w M Φ) (k:At M r):r.ok w:=h.ok r k
theorem Holds.fact (h:Holds w0 w M Φ) (k:φ∈Φ):φ w:=by
 obtain ⟨F,_,hf⟩:=h.firm φ k;exact hf w fun _ _=>rfl
theorem Holds.fact0 (h:Holds w0 w M (φ::Φ)):φ w:=h.fact List.mem_cons_self
theorem Holds.fact1 (h:Holds w0 w M (ψ::φ::Φ)):φ w:=h.fact (List.mem_cons_of_mem _ List.mem_cons_self)
theorem Holds.call (h:Holds w0 w M Φ) (k:Below w.heap.size w w'):Holds w0 w' M Φ where
 below:=h.below.trans (k.mono h.size)
 ok r hr:=r.loc w w' (fun b hb=>k.block b (r.lt w b hb (h.ok r hr))) (h.ok r hr)
 low:=h.low
 apart:=h.apart
 firm φ hφ:=by
  obtain ⟨F,h1,h2⟩:=h.firm φ hφ
  exact ⟨F,fun b hb=>⟨(h1 b hb).1,Nat.lt_of_lt_of_le (h1 b hb).2.1 k.size,(h1 b hb).2.2⟩,fun w2 e=>h2 w2 fun b hb=>(e b hb).trans (k.block b (h1 b hb).2.1)⟩
theorem Holds.drew (h:Holds w0 w M Φ):Holds w0 w.drew M Φ:=h.call (Below.refl _ _).drew
theorem Holds.callF (h:Holds w0 w M Φ) (k:Below w.heap.size w w') (hf:Fresh w w' φ):Holds w0 w' M (φ::Φ):=by
 have H:=h.call k
 refine ⟨H.below,H.ok,H.low,H.apart,fun ψ hψ=>?_⟩
 rcases List.mem_cons.1 hψ with rfl|hψ
 ·obtain ⟨F,h1,h2⟩:=hf
  refine ⟨F,fun b hb=>⟨Nat.le_trans h.size (h1 b hb).1,(h1 b hb).2,fun r hr e=>?_⟩,h2⟩
  have:=r.lt w b e (h.ok r hr)
  have:=(h1 b hb).1
  omega
 ·exact H.firm ψ hψ
theorem Holds.add (h:Holds w0 w M Φ) (k:Below w.heap.size w w') (hok:r.ok w') (hfr:∀ b,r.foot=some b→w.heap.size≤b):Holds w0 w' (r::M) Φ:=by
 have H:=h.call k
 refine ⟨H.below,?_,?_,?_,?_⟩
 ·intro s hs
  rcases List.mem_cons.1 hs with rfl|hs
  ·exact hok
  ·exact H.ok s hs
 ·intro s hs b hb
  rcases List.mem_cons.1 hs with rfl|hs
  ·exact Nat.le_trans h.size (hfr b hb)
  ·exact h.low s hs b hb
 ·refine List.Pairwise.cons (fun s hs b hb e=>?_) h.apart
  have:=s.lt w b e (h.ok s hs)
  have:=hfr b hb
  omega
 ·intro φ hφ
  obtain ⟨F,h1,h2⟩:=h.firm φ hφ
  have hb2:=fun b hb=>Nat.lt_of_lt_of_le (h1 b hb).2.1 k.size
  refine ⟨F,fun b hb=>⟨(h1 b hb).1,hb2 b hb,fun s hs e=>?_⟩,fun w2 e=>h2 w2 fun b hb=>(e b hb).trans (k.block b (h1 b hb).2.1)⟩
  rcases List.mem_cons.1 hs with rfl|hs
  ·have:=hfr b e
   have:=(h1 b hb).2.1
   omega
  ·exact (h1 b hb).2.2 s hs e
theorem Holds.upd (h:Holds w0 w M Φ) (hu:Upd M r r' M') (k:w.grownBy w' r.foot) (hok:r'.ok w') (hfr:∀ b,r'.foot=some b→r.foot=some b∨w.heap.size≤b):Holds w0 w' M' Φ:=by
 obtain ⟨p,q,rfl,rfl⟩:=hu
 have hrm:r∈p++r::q:=by simp
 have hap:=List.pairwise_append.1 h.apart
 have hap2:=List.pairwise_cons.1 hap.2.1
 have other:∀ s,s∈p∨s∈q→∀ b,s.foot=some b→r.foot≠some b:=by
  intro s hs b hb e
  rcases hs with hs|hs
  ·exact hap.2.2 s hs r (by simp) b hb e
  ·exact hap2.1 s hs b e hb
 have keep:∀ s,s∈p∨s∈q→s.ok w':=by
  intro s hs
  have hsm:s∈p++r::q:=by rcases hs with hs|hs <;> simp [hs]
  exact s.loc w w' (fun b hb=>k.block b (s.lt w b hb (h.ok s hsm)) (fun e=>other s hs b hb e.symm)) (h.ok s hsm)
 have ltS:∀ s,s∈p∨s∈q→∀ b,s.foot=some b→b<w.heap.size:=by
  intro s hs b hb
  have hsm:s∈p++r::q:=by rcases hs with hs|hs <;> simp [hs]
  exact s.lt w b hb (h.ok s hsm)
 have newapart:∀ s,s∈p∨s∈q→∀ b,s.foot=some b→r'.foot≠some b:=by
  intro s hs b hb e
  rcases hfr b e with e2|e2
  ·exact other s hs b hb e2
  ·have:=ltS s hs b hb;omega
 refine ⟨?_,?_,?_,?_,?_⟩
 ·refine h.below.trans ⟨k.os,k.tape,k.output,k.size,fun b hb=>k.block b (Nat.lt_of_lt_of_le hb h.size) (fun e=>?_)⟩
  have:=h.low r hrm b e.symm
  omega
 ·intro s hs
  rcases List.mem_append.1 hs with hs|hs
  ·exact keep s (.inl hs)
  ·rcases List.mem_cons.1 hs with rfl|hs
   ·exact hok
   ·exact keep s (.inr hs)
 ·intro s hs b hb
  rcases List.mem_append.1 hs with hs|hs
  ·exact h.low s (by simp [hs]) b hb
  ·rcases List.mem_cons.1 hs with rfl|hs
   ·rcases hfr b hb with e|e
    ·exact h.low r hrm b e
    ·exact Nat.le_trans h.size e
   ·exact h.low s (by simp [hs]) b hb
 ·refine List.pairwise_append.2 ⟨hap.1,List.pairwise_cons.2 ⟨fun s hs b hb e=>newapart s (.inr hs) b e hb,hap2.2⟩,fun s hs t ht b hb e=>?_⟩
  rcases List.mem_cons.1 ht with rfl|ht
  ·exact newapart s (.inl hs) b hb e
  ·exact hap.2.2 s hs t (by simp [ht]) b hb e
 ·intro φ hφ
  obtain ⟨F,h1,h2⟩:=h.firm φ hφ
  refine ⟨F,fun b hb=>⟨(h1 b hb).1,Nat.lt_of_lt_of_le (h1 b hb).2.1 k.size,fun s hs e=>?_⟩,fun w2 e=>h2 w2 fun b hb=>(e b hb).trans (k.block b (h1 b hb).2.1 (fun e2=>(h1 b hb).2.2 r hrm e2.symm))⟩
  rcases List.mem_append.1 hs with hs|hs
  ·exact (h1 b hb).2.2 s (by simp [hs]) e
  ·rcases List.mem_cons.1 hs with rfl|hs
   ·rcases hfr b e with e|e
    ·exact (h1 b hb).2.2 r hrm e
    ·have:=(h1 b hb).2.1;omega
   ·exact (h1 b hb).2.2 s (by simp [hs]) e
theorem Holds.settle (h:Holds w0 w M Φ) (hr:Rem M r M') (hφ:∀ w,r.ok w→φ w):Holds w0 w M' (φ::Φ):=by
 obtain ⟨p,q,rfl,rfl⟩:=hr
 have hap:=List.pairwise_append.1 h.apart
 have hap2:=List.pairwise_cons.1 hap.2.1
 have hrm:r∈p++r::q:=by simp
 have sub:∀ s,s∈p++q→s∈p++r::q:=by
  intro s hs;rcases List.mem_append.1 hs with hs|hs <;> simp [hs]
 refine ⟨h.below,fun s hs=>h.ok s (sub s hs),fun s hs=>h.low s (sub s hs),?_,?_⟩
 ·exact List.pairwise_append.2 ⟨hap.1,hap2.2,fun s hs t ht=>hap.2.2 s hs t (by simp [ht])⟩
 ·intro ψ hψ
  rcases List.mem_cons.1 hψ with rfl|hψ
  ·refine ⟨fun b=>r.foot=some b,fun b hb=>⟨h.low r hrm b hb,r.lt w b hb (h.ok r hrm),fun s hs e=>?_⟩,fun w2 e=>hφ w2 (r.loc w w2 e (h.ok r hrm))⟩
   rcases List.mem_append.1 hs with hs|hs
   ·exact hap.2.2 s hs r (by simp) b e hb
   ·exact hap2.1 s hs b hb e
  ·obtain ⟨F,h1,h2⟩:=h.firm ψ hψ
   exact ⟨F,fun b hb=>⟨(h1 b hb).1,(h1 b hb).2.1,fun s hs=>(h1 b hb).2.2 s (sub s hs)⟩,h2⟩
theorem Holds.drop (h:Holds w0 w M Φ) (hr:Rem M r M'):Holds w0 w M' Φ:=by
 have:=h.settle hr (φ:=fun _=>True) (fun _ _=>trivial)
 exact ⟨this.below,this.ok,this.low,this.apart,fun φ hφ=>this.firm φ (List.mem_cons_of_mem _ hφ)⟩
theorem Firm.and (h:Firm w0 w M φ) (k:Firm w0 w M ψ):Firm w0 w M (fun w=>φ w∧ψ w):=by
 obtain ⟨F,h1,h2⟩:=h;obtain ⟨G,k1,k2⟩:=k
 exact ⟨fun b=>F b∨G b,fun b hb=>hb.elim (h1 b) (k1 b),fun w2 e=>⟨h2 w2 fun b hb=>e b (.inl hb),k2 w2 fun b hb=>e b (.inr hb)⟩⟩
theorem Firm.mono (h:Firm w0 w M φ) (k:∀ w,φ w→ψ w):Firm w0 w M ψ:=by
 obtain ⟨F,h1,h2⟩:=h;exact ⟨F,h1,fun w2 e=>k w2 (h2 w2 e)⟩
theorem Firm.triv (h:∀ w,φ w):Firm w0 w M φ:=⟨fun _=>False,fun _ h=>h.elim,fun w2 _=>h w2⟩
theorem Holds.facts {Ψ:List (World→Prop)} (h:Holds w0 w M Φ) (k:∀ ψ∈Ψ,Firm w0 w M ψ):Holds w0 w M Ψ:=⟨h.below,h.ok,h.low,h.apart,k⟩
theorem Holds.join (h:Holds w0 w M (φ::ψ::Φ)) {χ:World→Prop} (k:∀ w,φ w→ψ w→χ w):Holds w0 w M (χ::Φ):=by
 refine h.facts fun θ hθ=>?_
 rcases List.mem_cons.1 hθ with rfl|hθ
 ·exact ((h.firm φ (by simp)).and (h.firm ψ (by simp))).mono fun w hw=>k w hw.1 hw.2
 ·exact h.firm θ (by simp [hθ])
theorem Holds.map (h:Holds w0 w M (φ::Φ)) {χ:World→Prop} (k:∀ w,φ w→χ w):Holds w0 w M (χ::Φ):=by
 refine h.facts fun θ hθ=>?_
 rcases List.mem_cons.1 hθ with rfl|hθ
 ·exact (h.firm φ (by simp)).mono k
 ·exact h.firm θ (by simp [hθ])
theorem Holds.triv (h:Holds w0 w M Φ) {χ:World→Prop} (k:∀ w,χ w):Holds w0 w M (χ::Φ):=by
 refine h.facts fun θ hθ=>?_
 rcases List.mem_cons.1 hθ with rfl|hθ
 ·exact Firm.triv k
 ·exact h.firm θ hθ
theorem Holds.forget (h:Holds w0 w M (φ::Φ)):Holds w0 w M Φ:=h.facts fun θ hθ=>h.firm θ (by simp [hθ])
theorem Holds.swap (h:Holds w0 w M (φ::ψ::Φ)):Holds w0 w M (ψ::φ::Φ):=h.facts fun θ hθ=>h.firm θ (by simp at hθ ⊢;rcases hθ with h|h|h <;> simp [h])
theorem Holds.fresh (h:Holds w0 w M (φ::Φ)):Fresh w0 w φ:=by
 obtain ⟨F,h1,h2⟩:=h.firm φ (by simp)
 exact ⟨F,fun b hb=>⟨(h1 b hb).1,(h1 b hb).2.1⟩,h2⟩
theorem Holds.alloc (h:Holds w0 w M Φ) (cs:Array Value) (T:TypeId):Holds w0 (w.alloc (.cells cs T)) (blk w.heap.size cs T::M) Φ :=
 h.add ((Below.refl _ _).alloc (Nat.le_refl _) _) (heap_alloc_new w _) (fun b hb=>by cases hb;exact Nat.le_refl _)
theorem Holds.setRow {b:Nat} {cs cs':Array Value} {T:TypeId} (h:Holds w0 w M Φ) (hu:Upd M (blk b cs T) (blk b cs' T) M'):Holds w0 (w.setRow b cs') M' Φ:=by
 have hat:At M (blk b cs T):=by obtain ⟨p,q,rfl,_⟩:=hu;exact List.mem_append.2 (.inr List.mem_cons_self)
 have hb:w.heap[b]?=some (.cells cs T (0,0)):=h.at hat
 refine h.upd hu ⟨rfl,rfl,rfl,by simp,fun k hk hne=>setRow_other w b k cs' (fun e=>hne (by subst e;rfl))⟩ (setRow_heap w b cs cs' T (0,0) hb) (fun b' hb'=>.inl hb')
theorem Holds.setCell {b o:Nat} {cs:Array Value} {T:TypeId} {v:Value} (h:Holds w0 w M Φ) (hu:Upd M (blk b cs T) (blk b (cs.setIfInBounds o v) T) M'):Holds w0 (w.setCell ⟨b,o,none⟩ v) M' Φ:=by
 have hat:At M (blk b cs T):=by obtain ⟨p,q,rfl,_⟩:=hu;exact List.mem_append.2 (.inr List.mem_cons_self)
 have hb:w.heap[b]?=some (.cells cs T (0,0)):=h.at hat
 rw [setCell_eq_setRow w b o cs T (0,0) v hb]
 exact h.setRow hu
theorem Holds.cell {b o:Nat} {cs:Array Value} {T:TypeId} (h:Holds w0 w M Φ) (k:At M (blk b cs T)):w.cell? ⟨b,o,none⟩=cs[o]? :=
 cell_of_row w b o cs T (0,0) (h.at k)
theorem Holds.soft {b o:Nat} {cs:Array Value} {T:TypeId} (h:Holds w0 w M Φ) (k:At M (blk b cs T)):w.frozen? ⟨b,o,none⟩=false :=
 frozen_of_row w b o cs T (h.at k)
theorem Holds.old {a:Addr} {v:Value} (h:Holds w0 w M Φ) (k:w0.cell? a=some v):w.cell? a=some v :=
 (h.below.cell (block_lt_of_cell k)).trans k
end
theorem foldSet_list:∀ (vs:List Value) (i off:Nat) (cs:Array Value) (k:Nat),
  ((vs.zipIdx i).foldl (fun (cs:Array Value) (x:Value × Nat)=>cs.setIfInBounds (off+x.2) x.1) cs)[k]?=if off+i≤k∧k<off+i+vs.length∧k<cs.size then vs[k-off-i]? else cs[k]?
 | [],i,off,cs,k=>by simp;omega
 | v::vs,i,off,cs,k=>by
  simp only [List.zipIdx_cons,List.foldl_cons]
  rw [foldSet_list vs (i+1) off _ k,Array.size_setIfInBounds,Array.getElem?_setIfInBounds]
  simp only [List.length_cons]
  by_cases h1:off+i=k
  ·subst h1
   rw [if_neg (by omega),if_pos rfl]
   by_cases h2:off+i<cs.size
   ·rw [if_pos h2,if_pos (by omega)];simp
   ·rw [if_neg h2,if_neg (by omega)];simp;omega
  ·rw [if_neg h1]
   by_cases h3:off+i≤k∧k<off+i+(vs.length+1)∧k<cs.size
   ·rw [if_pos (by omega),if_pos h3]
    rw [show k-off-i=(k-off-(i+1))+1 by omega,List.getElem?_cons_succ]
   ·rw [if_neg (by omega),if_neg h3]
theorem foldSet_get (vs:Array Value) (off:Nat) (cs:Array Value) (k:Nat) :
  (vs.zipIdx.foldl (fun (cs:Array Value) (x:Value × Nat)=>cs.setIfInBounds (off+x.2) x.1) cs)[k]?=if off≤k∧k<off+vs.size∧k<cs.size then vs[k-off]? else cs[k]?:=by
 have:=foldSet_list vs.toList 0 off cs k
 rw [←Array.foldl_toList,Array.toList_zipIdx]
 simpa using this
def numbered:Nat→List Value→List (Nat × Value)
 | _,[]=>[]
 | i,v::r=>(i,v)::numbered (i+1) r
def litCells (vs:List Value):Array Value:=(vs.flatMap fun v=>v.cells.toList).toArray
theorem fill_numbered {n:Nat}:∀ (vs:List Value) (i:Nat) (cells:Array Value),(∀ v∈vs,v.cells.size=n)→cells.size=(i+vs.length)*n →
  ∃ out,Instr.fill (fun j=>some (j*n,n)) cells (numbered i vs)=some out∧out.size=cells.size∧∀ k,out[k]?=if i*n≤k then (vs.flatMap fun v=>v.cells.toList)[k-i*n]? else cells[k]?
 | [],i,cells,_,hs=>⟨cells,rfl,rfl,fun k=>by
   by_cases h:i*n≤k
   ·rw [if_pos h];simp at hs ⊢;omega
   ·rw [if_neg h]⟩
 | v::vs,i,cells,hv,hs=>by
  have hvn:=hv v (by simp)
  have hsz:cells.size=i*n+n+vs.length*n:=by rw [hs];simp [Nat.add_mul];omega
  let c1:=v.cells.zipIdx.foldl (fun (cs:Array Value) (x:Value × Nat)=>cs.setIfInBounds (i*n+x.2) x.1) cells
  have g1:∀ k,c1[k]?=if i*n≤k∧k<i*n+v.cells.size∧k<cells.size then v.cells[k-i*n]? else cells[k]?:=foldSet_get v.cells (i*n) cells
  have s1:c1.size=cells.size:=by
   have key:∀ k,k<c1.size ↔ k<cells.size:=fun k=>by
    have e:=g1 k
    constructor
    ·intro h
     rw [Array.getElem?_eq_getElem h] at e
     split at e
     ·rename_i hh;exact hh.2.2
     ·exact (Array.getElem?_eq_some_iff.1 e.symm).1
    ·intro h
     rcases Nat.lt_or_ge k c1.size with h'|h'
     ·exact h'
     ·rw [Array.getElem?_eq_none h'] at e
      split at e
      ·rename_i hh
       rw [Array.getElem?_eq_getElem (by omega)] at e;cases e
      ·rw [Array.getElem?_eq_getElem h] at e;cases e
   have a:=key c1.size
   have b:=key cells.size
   omega
  obtain ⟨out,h1,h2,h3⟩:=fill_numbered vs (i+1) c1 (fun x hx=>hv x (by simp [hx])) (by rw [s1,hs];simp;congr 1;omega)
  refine ⟨out,?_,h2.trans s1,fun k=>?_⟩
  ·show Instr.fill (fun j=>some (j*n,n)) cells ((i,v)::numbered (i+1) vs)=some out
   unfold Instr.fill
   simp only
   rw [if_neg (by rw [hvn,hsz];simp)]
   exact h1
  ·rw [h3 k,g1 k,hvn]
   simp only [List.flatMap_cons]
   have em:(i+1)*n=i*n+n:=by rw [Nat.add_mul];omega
   by_cases h:i*n≤k
   ·rw [if_pos h]
    by_cases h':(i+1)*n≤k
    ·rw [if_pos h',List.getElem?_append_right (by simp [hvn];omega)]
     congr 1;simp [hvn];omega
    ·rw [if_neg h',if_pos (by omega),List.getElem?_append_left (by simp [hvn];omega)]
     simp
   ·rw [if_neg h,if_neg (by omega),if_neg (by omega)]
theorem run_buildLit {P:Program} (t e:TypeId) (i:TypeInfo) (z:Value) (ht:P.underlying t=some (.slice e)) (hi:P.info? e=some i) (hz:i.zero=some z) (vs:List Value) (hv:∀ v∈vs,v.cells.size=i.size)
  (hsm:vs.length*i.size≤16777216) (w:World) :
  (Instr.buildSlice t vs.length (numbered 0 vs).toArray).run P w=.ok (.slice (some ⟨w.heap.size,0,none⟩) vs.length vs.length) (w.alloc (.cells (litCells vs) e)):=by
 have key:∀ zc:Array Value,Instr.fill (fun j=>some (j*i.size,i.size)) ((Array.range (vs.length*i.size)).map (zc[·%zc.size]!)) (numbered 0 vs)=some (litCells vs):=by
  intro zc
  obtain ⟨out,h1,h2,h3⟩:=fill_numbered vs 0 ((Array.range (vs.length*i.size)).map (zc[·%zc.size]!)) hv (by simp)
  rw [h1]
  congr 1
  apply Array.ext_getElem?
  intro k
  rw [h3 k,if_pos (by omega)]
  simp [litCells]
 have hsm':¬(vs.length*i.size > 2^24):=by omega
 unfold Instr.buildSlice
 by_cases h0:vs.length*i.size=0
 ·have k0:=key #[]
  rw [h0] at k0
  simp at k0
  simp [run_underlying ht,sizeOf,typeInfo,hi,h0,newRow,Sem.run_bind,k0]
 ·simp [run_underlying ht,sizeOf,typeInfo,hi,h0,hsm',newRow,Sem.run_bind,zeroValue,hz,key]
section
variable {P : Program} {w0 w : World} {M M' : List Res} {Φ : List (World → Prop)} {ops : Array Oper} {rest : List Oper} {o : Oper} {a : Act} {Q : Exit → Act → World → Prop}
theorem wpList_wanted (hgd:Region.wanted o (yielded ops a.tmps)=true) (h:∀ K:Act→World→Prop,(∀ a w,wpList P ops Q rest a w→K a w)→o.wp P a w K Q):wpList P ops Q (o::rest) a w :=
 wpList_step fun K hK=>by rw [if_pos hgd];exact h K hK
theorem wpList_run (hgd:Region.wanted o (yielded ops a.tmps)=true) (v:Value) (w':World) (hr:(execOp a.eval o).run P w=.ok (.value v) w') (h:wpList P ops Q rest (a.put o.dst v) w'):wpList P ops Q (o::rest) a w:=by
 refine wpList_wanted hgd fun K hK=>?_
 unfold Oper.wp
 rw [hr]
 exact hK _ _ h
theorem wpList_runU (hgd:Region.wanted o (yielded ops a.tmps)=true) (w':World) (hr:(execOp a.eval o).run P w=.ok .skip w') (h:wpList P ops Q rest (a.put o.dst undef) w'):wpList P ops Q (o::rest) a w:=by
 refine wpList_wanted hgd fun K hK=>?_
 unfold Oper.wp
 rw [hr]
 exact hK _ _ h
theorem wpH_max (hgd:Region.wanted o (yielded ops a.tmps)=true) (x y:Operand) (t t':TypeId) (ho:o.op=.call { callee:=.builtin .max,args:=#[x,y],argTypes:=#[t,t'] })
  (m n:Int) (hx:a.eval x=.int .i64 m) (hy:a.eval y=.int .i64 n)
  (h:wpList P ops Q rest (a.put o.dst (.int .i64 (max m n))) w):wpList P ops Q (o::rest) a w:=by
 refine wpList_run hgd _ _ ?_ h
 simp [execOp,ho,hx,hy,resolve,invoke,builtin,Builtin.max_,Builtin.max2]
 by_cases hmn:m≤n
 ·simp [Int.max_def,hmn];omega
 ·simp [Int.max_def,hmn];omega
theorem wpH_min (hgd:Region.wanted o (yielded ops a.tmps)=true) (x y:Operand) (t t':TypeId) (ho:o.op=.call { callee:=.builtin .min,args:=#[x,y],argTypes:=#[t,t'] })
  (m n:Int) (hx:a.eval x=.int .i64 m) (hy:a.eval y=.int .i64 n)
  (h:wpList P ops Q rest (a.put o.dst (.int .i64 (min m n))) w):wpList P ops Q (o::rest) a w:=by
 refine wpList_run hgd _ _ ?_ h
 simp [execOp,ho,hx,hy,resolve,invoke,builtin,Builtin.min_,Builtin.min2]
 by_cases hmn:m≤n
 ·simp [Int.min_def,hmn];omega
 ·simp [Int.min_def,hmn]
theorem wpH_alloc (hgd:Region.wanted o (yielded ops a.tmps)=true) (T:TypeId) (z:Value) (cs:Array Value) (ho:o.op=.alloc T) (hz:∀ w,(zeroValue T).run P w=.ok z w) (hc:z.cells=cs)
  (hL:Holds w0 w M Φ) (h:∀ b w',Holds w0 w' (blk b cs T::M) Φ→wpList P ops Q rest (a.put o.dst (.pointer (some ⟨b,0,none⟩))) w'):wpList P ops Q (o::rest) a w:=by
 subst hc
 refine wpList_run hgd (.pointer (some ⟨w.heap.size,0,none⟩)) (w.alloc (.cells z.cells T)) ?_ (h _ _ (hL.alloc _ _))
 unfold execOp
 have:(Instr.alloc T true (.tuple #[])).run P w=.ok (.pointer (some ⟨w.heap.size,0,none⟩)) (w.alloc (.cells z.cells T)):=by
  unfold Instr.alloc
  rw [Sem.run_bind,hz]
  rfl
 simp only [ho,Sem.run_bind,this,Result.andThen_ok]
 rfl
theorem wpH_box (hgd:Region.wanted o (yielded ops a.tmps)=true) (T:TypeId) (x:Operand) (v:Value) (cs:Array Value) (ho:o.op=.box T x) (hx:a.eval x=v) (hc:v.cells=cs)
  (hL:Holds w0 w M Φ) (h:∀ b w',Holds w0 w' (blk b cs T::M) Φ→wpList P ops Q rest (a.put o.dst (.pointer (some ⟨b,0,none⟩))) w'):wpList P ops Q (o::rest) a w:=by
 subst hc;subst hx
 refine wpList_run hgd (.pointer (some ⟨w.heap.size,0,none⟩)) (w.alloc (.cells (a.eval x).cells T)) ?_ (h _ _ (hL.alloc _ _))
 unfold execOp
 simp only [ho]
 rfl
theorem Rem.at {r:Res} {M M':List Res} (h:Rem M r M'):At M r:=by
 obtain ⟨p,q,rfl,_⟩:=h;exact List.mem_append.2 (.inr List.mem_cons_self)
theorem Upd.at {r r':Res} {M M':List Res} (h:Upd M r r' M'):At M r:=by
 obtain ⟨p,q,rfl,_⟩:=h;exact List.mem_append.2 (.inr List.mem_cons_self)
theorem Holds.newOwn {B:Nat} {e size:Nat} (h:Holds w0 w M Φ):Holds w0 w (own B e size (.slice none 0 0) 0 []::M) Φ :=
 h.add (Below.refl _ _) (World.ownsRow_nil _ _ _ _) (fun b hb=>by cases hb)
theorem madeCells_one (z:Value) (n:Nat):madeCells #[z] n=(List.replicate n z).toArray:=by
 apply Array.ext
 ·simp [madeCells]
 ·intro i h1 h2
  simp [madeCells,Nat.mod_one]
end
open Go.RowKit
class ZeroT (P:Program) (T:TypeId) (z:outParam Value) (cs:outParam (Array Value)):Prop where
 out:∀ w,(zeroValue T).run P w=.ok z w
 cells:z.cells=cs
class ScalarT (P:Program) (T:TypeId):Prop where
 agg:∀ w,(isAgg T).run P w=.ok false w
 size:(P.info? T).map (·.size)=some 1
class RowT (P:Program) (T:TypeId) (n:outParam Nat):Prop where
 agg:∀ w,(isAgg T).run P w=.ok true w
 size:(P.info? T).map (·.size)=some n
class ElemT (P:Program) (T:TypeId) (n b:outParam Nat) (z:outParam Value):Prop where
 info:(P.info? T).map (fun i=>(i.zero,i.size,i.bytes))=some (some z,n,b)
class SliceT (P:Program) (T:TypeId) (e:outParam TypeId):Prop where
 out:P.underlying T=some (.slice e)
class ArrT (P:Program) (T:TypeId) (n:outParam Nat) (e:outParam TypeId):Prop where
 out:P.underlying T=some (.array n e)
 agg:∀ w,(isAgg e).run P w=.ok false w
 size:(P.info? e).map (·.size)=some 1
theorem ArrT.index {P:Program} {T:TypeId} {n:Nat} {e:TypeId} (h:ArrT P T n e) (cs:Array Value) (k:IntKind) (i:Int) (v:Value) (h0:0≤i) (h1:i<(n:Int)) (hv:cs[i.toNat]?=some v) (w:World) :
  (Instr.index T (.agg cs) (.int k i)).run P w=.ok v w:=by
 have hs:=h.size
 cases hq:P.info? e with
 | none=>simp [hq] at hs
 | some i' =>
  have hs':i'.size=1:=by simpa [hq] using hs
  simp [Instr.index,asIntOf,run_underlying h.out,Sem.run_bind,h0,h1,part,h.agg,sizeOf,typeInfo,hq,hs',hv]
def arrB (p:Nat→Bool):Array Value:=((List.range 64).map (fun i=>Value.bool (p i))).toArray
theorem arrB_size (p:Nat→Bool):(arrB p).size=64:=by simp [arrB]
theorem arrB_get (p:Nat→Bool) {i:Nat} (h:i<64):(arrB p)[i]?=some (.bool (p i)):=by
 simp [arrB,h]
theorem arrB_set (p:Nat→Bool) (b:Bool) {i:Nat} (h:i<64):(arrB p).setIfInBounds i (.bool b)=arrB (fun j=>if j=i then b else p j):=by
 apply Array.ext_getElem?
 intro j
 rw [Array.getElem?_setIfInBounds]
 by_cases hj:i=j
 ·subst hj;rw [if_pos rfl,if_pos (by rw [arrB_size];exact h),arrB_get _ h];simp
 ·rw [if_neg hj]
  by_cases h64:j<64
  ·rw [arrB_get _ h64,arrB_get _ h64,if_neg (fun e=>hj e.symm)]
  ·rw [Array.getElem?_eq_none (by rw [arrB_size];omega),Array.getElem?_eq_none (by rw [arrB_size];omega)]
theorem arrB_congr {p q:Nat→Bool} (h:∀ i,i<64→p i=q i):arrB p=arrB q:=by
 apply Array.ext_getElem?
 intro j
 by_cases h64:j<64
 ·rw [arrB_get _ h64,arrB_get _ h64,h j h64]
 ·rw [Array.getElem?_eq_none (by rw [arrB_size];omega),Array.getElem?_eq_none (by rw [arrB_size];omega)]
theorem arrB_one (p:Nat→Bool):(arrB p).all (·.oneCell')=true:=by
 rw [Array.all_eq_true_iff_forall_mem]
 intro v hv
 simp [arrB] at hv
 obtain ⟨i,_,rfl⟩:=hv
 rfl
theorem arrB_zero:arrB (fun _=>false)=Array.replicate 64 (.bool false):=by rfl
def arrI (n:Nat) (p:Nat→Int):Array Value:=((List.range n).map (fun i=>Value.int .i64 (p i))).toArray
theorem arrI_size (n:Nat) (p:Nat→Int):(arrI n p).size=n:=by simp [arrI]
theorem arrI_get {n:Nat} (p:Nat→Int) {i:Nat} (h:i<n):(arrI n p)[i]?=some (.int .i64 (p i)):=by
 simp [arrI,h]
theorem arrI_set {n:Nat} (p:Nat→Int) (b:Int) {i:Nat} (h:i<n):(arrI n p).setIfInBounds i (.int .i64 b)=arrI n (fun j=>if j=i then b else p j):=by
 apply Array.ext_getElem?
 intro j
 rw [Array.getElem?_setIfInBounds]
 by_cases hj:i=j
 ·subst hj;rw [if_pos rfl,if_pos (by rw [arrI_size];exact h),arrI_get _ h];simp
 ·rw [if_neg hj]
  by_cases h64:j<n
  ·rw [arrI_get _ h64,arrI_get _ h64,if_neg (fun e=>hj e.symm)]
  ·rw [Array.getElem?_eq_none (by rw [arrI_size];omega),Array.getElem?_eq_none (by rw [arrI_size];omega)]
theorem arrI_one (n:Nat) (p:Nat→Int):(arrI n p).all (·.oneCell')=true:=by
 rw [Array.all_eq_true_iff_forall_mem]
 intro v hv
 simp [arrI] at hv
 obtain ⟨i,_,rfl⟩:=hv
 rfl
theorem arrI_zero:arrI 65 (fun _=>0)=Array.replicate 65 (.int .i64 0):=by rfl
attribute [irreducible] arrB arrI
def SliceAt (w:World) (k:Nat) (v:Value) (els:List (List Value)):Prop :=
 ∃ a cap,v=.slice a els.length cap∧els.length≤cap∧cap≤maxLen∧∀ i (h:i<els.length),∃ b o,a=some ⟨b,o,none⟩∧w.rangeAt b (o+i*k) els[i]
theorem rangeAt_below {w w':World} {b o:Nat} {cs:List Value} (h:w.rangeAt b o cs) (k:Below w.heap.size w w'):w'.rangeAt b o cs :=
 fun j v hj=>(k.cell (block_lt_of_cell (h j v hj))).trans (h j v hj)
theorem SliceAt.below {w w':World} {k:Nat} {v:Value} {els:List (List Value)} (h:SliceAt w k v els) (hb:Below w.heap.size w w'):SliceAt w' k v els:=by
 obtain ⟨a,cap,h1,h2,h3,h4⟩:=h
 refine ⟨a,cap,h1,h2,h3,fun i hi=>?_⟩
 obtain ⟨b,o,e,hr⟩:=h4 i hi
 exact ⟨b,o,e,rangeAt_below hr hb⟩
theorem Holds.olds {w0 w:World} {M:List Res} {Φ:List (World→Prop)} {b o:Nat} {cs:List Value} (h:Holds w0 w M Φ) (k:w0.rangeAt b o cs):w.rangeAt b o cs :=
 rangeAt_below k h.below
def LoadAt (P:Program) (T:TypeId) (p:Addr) (w:World) (K:Value→Prop):Prop:=∃ v,(loadVar T p).run P w=.ok v w∧K v
def StoreAt (P:Program) (T:TypeId) (p:Addr) (v:Value) (w:World) (K:World→Prop):Prop:=∃ w',(storeVar T p v).run P w=.ok () w'∧K w'
def AppendAt (P:Program) (t ty:TypeId) (v x:Value) (w:World) (K:Value→World→Prop):Prop:=∃ v' w',(Builtin.append_ #[t,t] ty #[v,x]).run P w=.ok v' w'∧K v' w'
def LitAt (P:Program) (t:TypeId) (len:Nat) (vs:Array (Nat × Value)) (w:World) (K:Value→World→Prop):Prop:=∃ v' w',(Instr.buildSlice t len vs).run P w=.ok v' w'∧K v' w'
def MakeAt (P:Program) (t:TypeId) (L:Int) (w:World) (K:Value→World→Prop):Prop:=∃ v' w',(Instr.makeSlice t (.int .i64 L) (.int .i64 L)).run P w=.ok v' w'∧K v' w'
def IndexAt (P:Program) (t:TypeId) (x:Value) (i:Int) (w:World) (K:Value→Prop):Prop:=∃ v,(Instr.index t x (.int .i64 i)).run P w=.ok v w∧K v
section
variable {P : Program} {w : World} {ops : Array Oper} {rest : List Oper} {o : Oper} {a : Act} {Q : Exit → Act → World → Prop}
theorem wpA_load (hgd:Region.wanted o (yielded ops a.tmps)=true) (T:TypeId) (x:Operand) (ho:o.op=.load T x) (p:Addr) (hx:a.eval x=.pointer (some p))
  (h:LoadAt P T p w fun v=>wpList P ops Q rest (a.put o.dst v) w):wpList P ops Q (o::rest) a w:=by
 obtain ⟨v,hr,h⟩:=h
 refine wpList_run hgd v w ?_ h
 unfold execOp
 simp [ho,hx,Instr.loadAt,Instr.sureAddr,hr]
theorem wpA_store (hgd:Region.wanted o (yielded ops a.tmps)=true) (T:TypeId) (x y:Operand) (ho:o.op=.store T x y) (p:Addr) (hx:a.eval x=.pointer (some p)) (v:Value) (hy:a.eval y=v)
  (h:StoreAt P T p v w fun w'=>wpList P ops Q rest (a.put o.dst undef) w'):wpList P ops Q (o::rest) a w:=by
 obtain ⟨w',hr,h⟩:=h
 refine wpList_runU hgd w' ?_ h
 unfold execOp
 simp [ho,hx,hy,Instr.storeAt,Instr.sureAddr,hr]
theorem wpA_append (hgd:Region.wanted o (yielded ops a.tmps)=true) (s x:Operand) (t:TypeId) (ho:o.op=.call { callee:=.builtin .append,args:=#[s,x],argTypes:=#[t,t] }) (u:Value) (hx:a.eval x=u)
  (h:∀ v,a.eval s=v→AppendAt P t o.type v u w fun v' w'=>wpList P ops Q rest (a.put o.dst v') w'):wpList P ops Q (o::rest) a w:=by
 obtain ⟨v',w',hr,h⟩:=h _ rfl
 refine wpList_run hgd v' w' ?_ h
 unfold execOp
 simp [ho,hx,resolve,invoke,builtin,hr]
theorem wpA_lit (hgd:Region.wanted o (yielded ops a.tmps)=true) (t:TypeId) (len:Nat) (parts:Array (Nat × Operand)) (ho:o.op=.buildSlice t len parts)
  (h:LitAt P t len (parts.map fun (i,x)=>(i,a.eval x)) w fun v' w'=>wpList P ops Q rest (a.put o.dst v') w'):wpList P ops Q (o::rest) a w:=by
 obtain ⟨v',w',hr,h⟩:=h
 refine wpList_run hgd v' w' ?_ h
 unfold execOp
 simp only [ho,Sem.run_bind,hr]
 rfl
theorem wpA_make (hgd:Region.wanted o (yielded ops a.tmps)=true) (l c:Operand) (t:TypeId) (ho:o.op=.makeSlice t l c) (L:Int) (hl:a.eval l=.int .i64 L) (hc:a.eval c=.int .i64 L)
  (h:MakeAt P t L w fun v' w'=>wpList P ops Q rest (a.put o.dst v') w'):wpList P ops Q (o::rest) a w:=by
 obtain ⟨v',w',hr,h⟩:=h
 refine wpList_run hgd v' w' ?_ h
 unfold execOp
 simp only [ho,hl,hc,Sem.run_bind,hr]
 rfl
theorem wpA_index (hgd:Region.wanted o (yielded ops a.tmps)=true) (T:TypeId) (x y:Operand) (ho:o.op=.index T x y) (cs:Array Value) (hx:a.eval x=.agg cs) (i:Int) (hy:a.eval y=.int .i64 i)
  (h:IndexAt P T (.agg cs) i w fun v=>wpList P ops Q rest (a.put o.dst v) w):wpList P ops Q (o::rest) a w:=by
 obtain ⟨v,hr,h⟩:=h
 refine wpList_run hgd v w ?_ h
 unfold execOp
 simp only [ho,hx,hy,Sem.run_bind,hr]
 rfl
end
section
variable {P : Program} {w0 w : World} {M M' : List Res} {Φ : List (World → Prop)} {ops : Array Oper} {rest : List Oper} {o : Oper} {a : Act} {Q : Exit → Act → World → Prop} {K : Value → Prop} {KW : World → Prop} {K2 : Value → World → Prop}
theorem wpC_alloc (hgd:Region.wanted o (yielded ops a.tmps)=true) (T:TypeId) (ho:o.op=.alloc T) (z:Value) (cs:Array Value) (hz:ZeroT P T z cs)
  (hL:Holds w0 w M Φ) (h:∀ b w',Holds w0 w' (blk b cs T::M) Φ→wpList P ops Q rest (a.put o.dst (.pointer (some ⟨b,0,none⟩))) w'):wpList P ops Q (o::rest) a w :=
 wpH_alloc hgd T z _ ho hz.out hz.cells hL h
theorem wpB_agg (hgd:Region.wanted o (yielded ops a.tmps)=true) (T:TypeId) (x:Operand) (cs:Array Value) (ho:o.op=.box T x) (hx:a.eval x=.agg cs)
  (hL:Holds w0 w M Φ) (h:∀ b w',Holds w0 w' (blk b cs T::M) Φ→wpList P ops Q rest (a.put o.dst (.pointer (some ⟨b,0,none⟩))) w'):wpList P ops Q (o::rest) a w :=
 wpH_box hgd T x _ _ ho hx rfl hL h
theorem wpB_one (hgd:Region.wanted o (yielded ops a.tmps)=true) (T:TypeId) (x:Operand) (v:Value) (ho:o.op=.box T x) (hx:a.eval x=v) (hv:v.cells=#[v])
  (hL:Holds w0 w M Φ) (h:∀ b w',Holds w0 w' (blk b #[v] T::M) Φ→wpList P ops Q rest (a.put o.dst (.pointer (some ⟨b,0,none⟩))) w'):wpList P ops Q (o::rest) a w :=
 wpH_box hgd T x _ _ ho hx hv hL h
theorem loadAt_blk {T:TypeId} {b off:Nat} (hT:ScalarT P T) (hL:Holds w0 w M Φ) (cs:Array Value) (T':TypeId) (hat:At M (blk b cs T')) (v:Value) (hv:cs[off]?=some v) (h:K v):LoadAt P T ⟨b,off,none⟩ w K:=by
 refine ⟨v,?_,h⟩
 have hc:w.cell? ⟨b,off,none⟩=some v:=(hL.cell hat).trans hv
 simp [Sem.run_bind,loadVar,hT.agg,hc]
theorem loadAt_cell {T:TypeId} {p:Addr} (hT:ScalarT P T) (v:Value) (hc:w.cell? p=some v) (h:K v):LoadAt P T p w K:=by
 refine ⟨v,?_,h⟩
 simp [Sem.run_bind,loadVar,hT.agg,hc]
theorem loadAt_cells {T:TypeId} {b off n:Nat} (hT:RowT P T n) (cs:List Value) (hc:w.rangeAt b off cs) (hn:n=cs.length) (h:K (.agg cs.toArray)):LoadAt P T ⟨b,off,none⟩ w K:=by
 refine ⟨_,?_,h⟩
 have hl:(loadCells ⟨b,off,none⟩ cs.length).run P w=.ok cs.toArray w :=
  run_loadCells_list (P:=P) w ⟨b,off,none⟩ cs (fun j v hv=>by rw [Addr.add_mid];exact hc j v hv)
 have hi:=hT.size
 cases hq:P.info? T with
 | none=>simp [hq] at hi
 | some i =>
  have hs:i.size=cs.length:=by simpa [hq,hn] using hi
  simp [Sem.run_bind,loadVar,hT.agg,sizeOf,typeInfo,hq,hs,hl]
theorem loadAt_row {T:TypeId} {b n:Nat} (hT:RowT P T n) (hL:Holds w0 w M Φ) (cs:Array Value) (T':TypeId) (hat:At M (blk b cs T')) (hn:n=cs.size) (h:K (.agg cs)):LoadAt P T ⟨b,0,none⟩ w K :=
 loadAt_cells hT cs.toList (fun j v hv=>by rw [Nat.zero_add,hL.cell hat];simpa using hv) (by simpa using hn) (by simpa using h)
theorem loadAt_part {T:TypeId} {b off n:Nat} (hT:RowT P T n) (hL:Holds w0 w M Φ) (cs:Array Value) (T':TypeId) (hat:At M (blk b cs T')) (vs:List Value) (hv:(cs.toList.drop off).take n=vs) (hn:n=vs.length) (h:K (.agg vs.toArray)):LoadAt P T ⟨b,off,none⟩ w K :=
 loadAt_cells hT vs (fun j v hj=>by
  rw [hL.cell hat]
  subst hv
  rw [List.getElem?_take] at hj
  split at hj
  ·simpa using hj
  ·cases hj) hn h
theorem storeAt_cell {T:TypeId} {b off:Nat} {v:Value} (h1:v.cells=#[v]) (hv1:v.oneCell'=true) (hT:ScalarT P T)
  (hL:Holds w0 w M Φ) (cs:Array Value) (T':TypeId) (cs':Array Value) (hu:Upd M (blk b cs T') (blk b cs' T') M') (hoff:off<cs.size) (hcs:cs.setIfInBounds off v=cs')
  (h:∀ w',Holds w0 w' M' Φ→KW w'):StoreAt P T ⟨b,off,none⟩ v w KW:=by
 subst hcs
 refine ⟨w.setCell ⟨b,off,none⟩ v,?_,h _ (hL.setCell hu)⟩
 have hat:=hu.at
 have hc:w.cell? ⟨b,off,none⟩=some cs[off]:=(hL.cell hat).trans (by simp [hoff])
 have hf:w.frozen? ⟨b,off,none⟩=false:=hL.soft hat
 have hi:=hT.size
 cases hq:P.info? T with
 | none=>simp [hq] at hi
 | some i =>
  have hs:i.size=1:=by simpa [hq] using hi
  simp [Sem.run_bind,storeVar,sizeOf,typeInfo,hq,hs,h1,storeCells,run_store,hv1,hc,hf,Addr.add]
theorem storeAt_row {T:TypeId} {b n:Nat} {cs':Array Value} (hT:RowT P T n) (hv1:cs'.all (·.oneCell')=true)
  (hL:Holds w0 w M Φ) (cs:Array Value) (T':TypeId) (hu:Upd M (blk b cs T') (blk b cs' T') M') (hsz:cs.size=cs'.size) (hn:n=cs'.size)
  (h:∀ w',Holds w0 w' M' Φ→KW w'):StoreAt P T ⟨b,0,none⟩ (.agg cs') w KW :=
 ⟨w.setRow b cs',run_storeVar_row w b T' T cs cs' (hL.at hu.at) (hn▸hT.size) hsz hv1,h _ (hL.setRow hu)⟩
theorem storeAt_part {T:TypeId} {b off n:Nat} {vs:Array Value} (hT:RowT P T n) (hv1:vs.all (·.oneCell')=true)
  (hL:Holds w0 w M Φ) (cs:Array Value) (T':TypeId) (cs':Array Value) (hu:Upd M (blk b cs T') (blk b cs' T') M') (hoff:off+n≤cs.size) (hn:n=vs.size)
  (hcs:(cs.toList.take off++vs.toList++cs.toList.drop (off+n)).toArray=cs')
  (h:∀ w',Holds w0 w' M' Φ→KW w'):StoreAt P T ⟨b,off,none⟩ (.agg vs) w KW:=by
 have hb:w.heap[b]?=some (.cells cs T' (0,0)):=hL.at hu.at
 refine ⟨w.setRow b cs',?_,h _ (hL.setRow hu)⟩
 have hr:=run_storeCells_at (P:=P) b off T' vs.toList 0 cs w hb (by simp;omega) (fun v hv=>Array.all_eq_true_iff_forall_mem.1 hv1 v (by simpa using hv))
 have hi:=hT.size
 cases hq:P.info? T with
 | none=>simp [hq] at hi
 | some i =>
  have hs:i.size=vs.size:=by simpa [hq,hn] using hi
  subst hcs
  simp only [Nat.add_zero] at hr
  simp [Sem.run_bind,storeVar,sizeOf,typeInfo,hq,hs,Value.cells,hr]
  congr 1
  subst hn
  simp
theorem appendAt {t ty e size bytes:Nat} {z v:Value} {b m c:Nat} (ht:SliceT P t e) (hi:ElemT P e size bytes z)
  (hL:Holds w0 w M Φ) (news:Array Value) (T':TypeId) (hrem:Rem M (blk b news T') M') (n:Nat) (xs:List Value) (f:Res→List Res) (hu:∀ r',Upd M' (own w0.heap.size e size v n xs) r' (f r'))
  (hz:z.cells.size=size) (hp:0<size) (hl:news.size=m*size) (h1:news.all (·.oneCell')=true) (hm:0<m) (h63:n+m≤maxLen) (hbytes:(n+m)*bytes≤140737488355328)
  (h:∀ g cap w',Holds w0 w' (f (own w0.heap.size e size (.slice (some ⟨g,0,none⟩) (n+m) cap) (n+m) (xs++news.toList))) Φ→K2 (.slice (some ⟨g,0,none⟩) (n+m) cap) w'):AppendAt P t ty v (.slice (some ⟨b,0,none⟩) m c) w K2:=by
 obtain ⟨i,hi1,hi2,hi3,hi4⟩:=info_parts hi.info
 have hL1:=hL.drop hrem
 obtain ⟨g,cap,w',hr,hown,hgr,hat,hlt⟩:=run_append_lies (P:=P) w t ty w0.heap.size e i z size bytes ht.out hi1 hi2 hi3 hi4 hz hp v n xs (hL1.at (hu (own w0.heap.size e size v n xs)).at) ⟨b,0,none⟩ m c news.toList (by simpa using hl) (fun j u hju=>by
  have hadd:(⟨b,0,none⟩:Addr).add j=⟨b,j,none⟩:=by unfold Addr.add;split <;> simp_all
  rw [hadd,hL.cell hrem.at]
  simpa using hju) (fun u hu=>Array.all_eq_true_iff_forall_mem.1 h1 u (by simpa using hu)) hm h63 hbytes hL.size _ rfl
 refine ⟨_,w',hr,h g cap w' (hL1.upd (hu _) hgr hown (fun b' hb'=>?_))⟩
 cases hb'
 rcases hat with h|h
 ·exact .inl h
 ·exact .inr (Nat.le_of_eq h.symm)
theorem litAt {t len e size bytes:Nat} {z:Value} {vp:Array (Nat × Value)} (ht:SliceT P t e) (hi:ElemT P e size bytes z)
  (vs:List Value) (hvs:vp=(numbered 0 vs).toArray) (hlen:len=vs.length) (hv:vs.all (fun v=>decide (v.cells.size=size))=true) (hsm:vs.length*size≤16777216) (cs:Array Value) (hcs:litCells vs=cs)
  (hL:Holds w0 w M Φ) (h:∀ b w',Holds w0 w' (blk b cs e::M) Φ→K2 (.slice (some ⟨b,0,none⟩) len len) w'):LitAt P t len vp w K2:=by
 subst hcs;subst hlen;subst hvs
 obtain ⟨i,hi1,hi2,hi3,hi4⟩:=info_parts hi.info
 exact ⟨_,_,run_buildLit t e i z ht.out hi1 hi2 vs (fun v hv'=>by rw [hi3];simpa using List.all_eq_true.1 hv v hv') (by rw [hi3];exact hsm) w,h _ _ (hL.alloc _ _)⟩
theorem litAt1 {t e size bytes:Nat} {z:Value} {vp:Array (Nat × Value)} (v0:Value) (hvs:vp=#[(0,v0)]) (ht:SliceT P t e) (hi:ElemT P e size bytes z)
  (hv:[v0].all (fun v=>decide (v.cells.size=size))=true) (hsm:1*size≤16777216) (cs:Array Value) (hcs:litCells [v0]=cs)
  (hL:Holds w0 w M Φ) (h:∀ b w',Holds w0 w' (blk b cs e::M) Φ→K2 (.slice (some ⟨b,0,none⟩) 1 1) w'):LitAt P t 1 vp w K2 :=
 litAt ht hi [v0] hvs rfl hv hsm cs hcs hL h
theorem litAt2 {t e size bytes:Nat} {z:Value} {vp:Array (Nat × Value)} (v0 v1:Value) (hvs:vp=#[(0,v0),(1,v1)]) (ht:SliceT P t e) (hi:ElemT P e size bytes z)
  (hv:[v0,v1].all (fun v=>decide (v.cells.size=size))=true) (hsm:2*size≤16777216) (cs:Array Value) (hcs:litCells [v0,v1]=cs)
  (hL:Holds w0 w M Φ) (h:∀ b w',Holds w0 w' (blk b cs e::M) Φ→K2 (.slice (some ⟨b,0,none⟩) 2 2) w'):LitAt P t 2 vp w K2 :=
 litAt ht hi [v0,v1] hvs rfl hv hsm cs hcs hL h
theorem litAt3 {t e size bytes:Nat} {z:Value} {vp:Array (Nat × Value)} (v0 v1 v2:Value) (hvs:vp=#[(0,v0),(1,v1),(2,v2)]) (ht:SliceT P t e) (hi:ElemT P e size bytes z)
  (hv:[v0,v1,v2].all (fun v=>decide (v.cells.size=size))=true) (hsm:3*size≤16777216) (cs:Array Value) (hcs:litCells [v0,v1,v2]=cs)
  (hL:Holds w0 w M Φ) (h:∀ b w',Holds w0 w' (blk b cs e::M) Φ→K2 (.slice (some ⟨b,0,none⟩) 3 3) w'):LitAt P t 3 vp w K2 :=
 litAt ht hi [v0,v1,v2] hvs rfl hv hsm cs hcs hL h
theorem litAt4 {t e size bytes:Nat} {z:Value} {vp:Array (Nat × Value)} (v0 v1 v2 v3:Value) (hvs:vp=#[(0,v0),(1,v1),(2,v2),(3,v3)]) (ht:SliceT P t e) (hi:ElemT P e size bytes z)
  (hv:[v0,v1,v2,v3].all (fun v=>decide (v.cells.size=size))=true) (hsm:4*size≤16777216) (cs:Array Value) (hcs:litCells [v0,v1,v2,v3]=cs)
  (hL:Holds w0 w M Φ) (h:∀ b w',Holds w0 w' (blk b cs e::M) Φ→K2 (.slice (some ⟨b,0,none⟩) 4 4) w'):LitAt P t 4 vp w K2 :=
 litAt ht hi [v0,v1,v2,v3] hvs rfl hv hsm cs hcs hL h
theorem makeAt {t e bytes:Nat} {z:Value} {L:Int} (ht:SliceT P t e) (hi:ElemT P e 1 bytes z) (hz:z.cells=#[z]) (n:Nat) (hL0:L=(n:Int)) (hb:bytes*n≤281474976710656) (hm:n≤maxLen)
  (hL:Holds w0 w M Φ) (h:∀ b w',Holds w0 w' (blk b (List.replicate n z).toArray e::M) Φ→K2 (.slice (some ⟨b,0,none⟩) n n) w'):MakeAt P t L w K2:=by
 obtain ⟨i,hi1,hi2,hi3,hi4⟩:=info_parts hi.info
 subst hL0
 have hb':(i.bytes:Int)*(n:Int)≤281474976710656:=by
  have h:((bytes*n:Nat):Int)≤281474976710656:=by omega
  rw [hi4]
  rwa [Int.natCast_mul] at h
 have hrun:=run_make (P:=P) w t e i z ht.out hi1 hi2 .i64 .i64 (n:Int) (n:Int) (by omega) (Int.le_refl _) hb' (by unfold maxLen at hm;omega)
 simp only [Int.toNat_natCast,hi3,Nat.mul_one,hz,madeCells_one] at hrun
 exact ⟨_,_,hrun,h _ _ (hL.alloc _ _)⟩
theorem indexAt_B {T e:TypeId} {i:Int} {p:Nat→Bool} (hT:ArrT P T 64 e) (h0:0≤i) (h1:i<64) (h:K (.bool (p i.toNat))):IndexAt P T (.agg (arrB p)) i w K :=
 ⟨_,hT.index (arrB p) .i64 i (.bool (p i.toNat)) h0 (by omega) (by rw [arrB_get _ (by omega)]) w,h⟩
theorem indexAt {T e:TypeId} {n:Nat} {i:Int} {cs:Array Value} (hT:ArrT P T n e) (v:Value) (h0:0≤i) (h1:i<(n:Int)) (hv:cs[i.toNat]?=some v) (h:K v):IndexAt P T (.agg cs) i w K :=
 ⟨_,hT.index cs .i64 i v h0 h1 hv w,h⟩
end
theorem results_row {P:Program} {fn:Func} {p:Tmp} {T:TypeId} {n:Nat} (hT:RowT P T n) (h:fn.results=#[.cell p T]) {w0 w:World} {M:List Res} {Φ:List (World→Prop)} (tmps:Array Value)
  (hL:Holds w0 w M Φ) (b:Nat) (hp:tmps.getD p undef=.pointer (some ⟨b,0,none⟩)) (cs:Array Value) (T':TypeId) (hat:At M (blk b cs T')) (hn:n=cs.size) :
  (results fn tmps).run P w=.ok (.agg cs) w:=by
 have hp':tmps[p]?.getD undef=.pointer (some ⟨b,0,none⟩):=by simpa using hp
 have hl:(loadCells ⟨b,0,none⟩ cs.toList.length).run P w=.ok cs.toList.toArray w :=
  run_loadCells_list (P:=P) w ⟨b,0,none⟩ cs.toList (fun j v hv=>by rw [Addr.add_mid,Nat.zero_add,hL.cell hat];simpa using hv)
 have hi:=hT.size
 cases hq:P.info? T with
 | none=>simp [hq] at hi
 | some i =>
  have hs:i.size=cs.size:=by simpa [hq,hn] using hi
  have ha:=hT.agg
  simp only [Array.length_toList,Array.toArray_toList] at hl
  simp [results,h,hp',asAddr,loadVar,Sem.run_bind,ha,sizeOf,typeInfo,hq,hs,hl]
theorem results_row2 {P:Program} {fn:Func} {p t:Tmp} {T:TypeId} {n:Nat} (hT:RowT P T n) (h:fn.results=#[.cell p T,.tmp t]) {w0 w:World} {M:List Res} {Φ:List (World→Prop)} (tmps:Array Value)
  (hL:Holds w0 w M Φ) (b:Nat) (hp:tmps.getD p undef=.pointer (some ⟨b,0,none⟩)) (cs:Array Value) (T':TypeId) (hat:At M (blk b cs T')) (hn:n=cs.size) :
  (results fn tmps).run P w=.ok (.tuple #[.agg cs,tmps.getD t undef]) w:=by
 have hp':tmps[p]?.getD undef=.pointer (some ⟨b,0,none⟩):=by simpa using hp
 have hl:(loadCells ⟨b,0,none⟩ cs.toList.length).run P w=.ok cs.toList.toArray w :=
  run_loadCells_list (P:=P) w ⟨b,0,none⟩ cs.toList (fun j v hv=>by rw [Addr.add_mid,Nat.zero_add,hL.cell hat];simpa using hv)
 have hi:=hT.size
 cases hq:P.info? T with
 | none=>simp [hq] at hi
 | some i =>
  have hs:i.size=cs.size:=by simpa [hq,hn] using hi
  have ha:=hT.agg
  simp only [Array.length_toList,Array.toArray_toList] at hl
  simp [results,h,hp',asAddr,loadVar,Sem.run_bind,ha,sizeOf,typeInfo,hq,hs,hl]
end Go.Proofs.YtmnoeoecjfhhbaaGreat
