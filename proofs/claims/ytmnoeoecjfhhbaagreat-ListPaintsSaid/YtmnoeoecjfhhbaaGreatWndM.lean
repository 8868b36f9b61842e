/- A slice out of old memory is appended to a slice of the call's own. -/
import Derived.Test.YtmnoeoecjfhhbaaGreatBowM
import Derived.Maps.AppendAt
namespace Go.Proofs.YtmnoeoecjfhhbaaGreat
open Go.RowKit
theorem sp_bounds {e:Edg} {y:Int} (hs:Small e y):(-1≤spT e y∧spT e y≤1)∧(-402554886≤spP e y∧spP e y≤402554886)∧(-16382≤spM e y∧spM e y≤16382):=by
 obtain ⟨a0,a1,b0,b1,c0,c1,d0,d1,f0,f1⟩:=hs
 obtain ⟨p1,p2⟩:=mul_bd (a:=e.x0) (b:=e.y1-e.y0) (A:=8191) (B:=16382) (by omega) (by omega) (by omega) (by omega)
 obtain ⟨p3,p4⟩:=mul_bd (a:=e.x1-e.x0) (b:=y-e.y0) (A:=16382) (B:=16382) (by omega) (by omega) (by omega) (by omega)
 unfold spT spP spM
 refine ⟨?_,?_,?_⟩ <;> (repeat' split) <;> omega
open Go.RowKit
theorem storeAt_old {P:Program} {w:World} {KW:World→Prop} {T T':TypeId} {b off:Nat} {v:Value} {cs:Array Value} [hT:ScalarT P T] (h1:v.cells=#[v]) (hv1:v.oneCell'=true) (hb:w.heap[b]?=some (.cells cs T' (0,0))) (hoff:off<cs.size)
  (h:KW (w.setCell ⟨b,off,none⟩ v)):StoreAt P T ⟨b,off,none⟩ v w KW:=by
 refine ⟨w.setCell ⟨b,off,none⟩ v,?_,h⟩
 have hc:w.cell? ⟨b,off,none⟩=some cs[off]:=by rw [cell_of_row w b off cs T' (0,0) hb];simp [hoff]
 have hf:w.frozen? ⟨b,off,none⟩=false:=frozen_of_row w b off cs T' hb
 have hi:=hT.size
 cases hq:P.info? T with
 | none=>simp [hq] at hi
 | some i =>
  have hs:i.size=1:=by simpa [hq] using hi
  simp [Sem.run_bind,storeVar,sizeOf,typeInfo,hq,hs,h1,storeCells,run_store,hv1,hc,hf,Addr.add]
open Go.RowKit
theorem flatten_get {k:Nat}:∀ {els:List (List Value)} (_:∀ e∈els,e.length=k) (i:Nat) (h:i<els.length) (j:Nat) (v:Value),els[i][j]?=some v→els.flatten[i*k+j]?=some v
 | e::els,hk,0,_,j,v,hj=>by
  simp at hj
  rw [List.flatten_cons,Nat.zero_mul,Nat.zero_add,List.getElem?_append_left (by have:=(List.getElem?_eq_some_iff.1 hj).1;exact this)]
  exact hj
 | e::els,hk,i+1,h,j,v,hj=>by
  have he:=hk e (by simp)
  have:=flatten_get (els:=els) (fun x hx=>hk x (by simp [hx])) i (by simpa using h) j v (by simpa using hj)
  rw [List.flatten_cons,List.getElem?_append_right (by rw [he,Nat.add_mul];omega),he,show (i+1)*k+j-k=i*k+j by rw [Nat.add_mul];omega]
  exact this
theorem edgeC_len (l:List Edg):∀ c∈l.map edgeC,c.length=7:=by
 intro c hc
 obtain ⟨e,_,rfl⟩:=List.mem_map.1 hc
 rfl
def isIn (rule n:Int):Bool:=if rule=0 then decide (n≠0) else if rule=1 then decide (n%2≠0) else false
open Go.RowKit
open Go.RowKit
theorem own_sliceAt {w:World} {B:Nat} {e:TypeId} {k:Nat} {v:Value} {n:Nat} {xs:List Value} (h:(own B e k v n xs).ok w) {els:List (List Value)} (hn:n=els.length) (hx:xs=els.flatten) (hk:∀ e∈els,e.length=k) :
  SliceAt w k v els:=by
 subst hn;subst hx
 obtain ⟨h1,h2|⟨g,cap,cur,rfl,hb,hg,hnc,hcm,hcs,ht⟩⟩:=h
 ·obtain ⟨rfl,h0⟩:=h2
  refine ⟨none,0,by rw [h0],by omega,by omega,fun i hi=>by omega⟩
 ·refine ⟨_,cap,rfl,hnc,hcm,fun i hi=>⟨g,0,rfl,fun j u hju=>?_⟩⟩
  rw [cell_of_row w g _ cur e (0,0) hg]
  have:=flatten_get hk i hi j u hju
  rw [←ht,List.getElem?_take] at this
  split at this
  ·rw [Nat.zero_add];simpa using this
  ·cases this
def tailV:Value→Value
 | .slice (some ⟨b,o,none⟩) (n+1) (c+2)=>.slice (some ⟨b,o+1,none⟩) n (c+1)
 | .slice (some ⟨b,o,none⟩) (n+1) 1=>.slice (some ⟨b,o,none⟩) n 0
 | v=>v
theorem NumsAt.tail {w:World} {v:Value} {l:List Int} (h:NumsAt w v l):NumsAt w (tailV v) l.tail:=by
 cases l with
 | nil =>
  obtain ⟨a,cap,rfl,_⟩:=h.parts
  have:tailV (.slice a 0 cap)=.slice a 0 cap:=by unfold tailV;split <;> simp_all
  simpa [this] using h
 | cons z l =>
  obtain ⟨a,cap,rfl,hlc,hcm,hel⟩:=h.parts
  simp only [List.length_cons] at hlc hel ⊢
  obtain ⟨b,o,rfl,_⟩:=hel 0 (by omega)
  rcases (by omega:cap=1∨2≤cap) with rfl|hc2
  ·exact ⟨some ⟨b,o,none⟩,0,by rw [List.length_map,List.tail_cons,show l.length=0 by omega];rfl,by simp only [List.tail_cons,List.length_map];omega,by unfold maxLen;omega,fun i hi=>by simp only [List.tail_cons,List.length_map] at hi;omega⟩
  obtain ⟨c,rfl⟩:∃ c,cap=c+2:=⟨cap-2,by omega⟩
  refine ⟨some ⟨b,o+1,none⟩,c+1,by simp [tailV],by simp;omega,by omega,fun i hi=>⟨b,o+1,rfl,fun j u hj=>?_⟩⟩
  simp only [List.tail_cons,List.length_map] at hi
  obtain ⟨b',o',e,hc⟩:=hel (i+1) (by omega)
  cases e
  rcases j with _|j
  ·simp only [List.tail_cons,List.getElem_map,List.getElem?_cons_zero,Option.some.injEq] at hj
   rw [←hj,Nat.mul_one,Nat.add_zero,show o+1+i=o+(i+1) by omega,hc]
   simp [hi]
  ·simp at hj
open Go.RowKit
open Go.RowKit
section
variable {P : Program} {w0 w : World} {M M' : List Res} {Φ : List (World → Prop)} {K2 : Value → World → Prop}
theorem cells_flat {w:World} {b o k:Nat}:∀ {els:List (List Value)} (_:∀ x∈els,x.length=k) (p:Nat) (_:∀ i (h:i<els.length),w.rangeAt b (o+(p+i)*k) els[i]) (j:Nat) (u:Value),els.flatten[j]?=some u→w.cell? ⟨b,o+p*k+j,none⟩=some u
 | [],_,_,_,j,u,hj=>by simp at hj
 | e::els,hk,p,h,j,u,hj=>by
  rw [List.flatten_cons,List.getElem?_append] at hj
  have he:=hk e List.mem_cons_self
  split at hj
  ·have:=h 0 (by simp) j u hj
   simpa using this
  ·rename_i hge
   have h2:=cells_flat (o:=o) (fun x hx=>hk x (List.mem_cons_of_mem _ hx)) (p+1) (fun i hi=>by
    have:=h (i+1) (by simpa using hi)
    rw [show p+(i+1)=p+1+i by omega] at this
    simpa using this) (j-e.length) u hj
   rw [←h2]
   congr 2
   rw [Nat.add_mul,Nat.one_mul]
   omega
theorem appendOld {t ty e size bytes:Nat} {z v u:Value} [ht:SliceT P t e] [hi:ElemT P e size bytes z] {els:List (List Value)} (hs:SliceAt w size u els) (hk:∀ x∈els,x.length=size) (h1:∀ x∈els,∀ y∈x,y.oneCell'=true)
  (hL:Holds w0 w M Φ) {n:Nat} {xs:List Value} {f:Res→List Res} (hu:∀ r',Upd M (own w0.heap.size e size v n xs) r' (f r'))
  (hz:z.cells.size=size) (hp:0<size) (h63:n+els.length≤maxLen) (hbytes:(n+els.length)*bytes≤140737488355328)
  (h:∀ v' w',Holds w0 w' (f (own w0.heap.size e size v' (n+els.length) (xs++els.flatten))) Φ→K2 v' w'):AppendAt P t ty v u w K2:=by
 obtain ⟨i,hi1,hi2,hi3,hi4⟩:=info_parts hi.info
 obtain ⟨a,cap,rfl,hlc,hcm,hel⟩:=hs
 have hown:=hL.at (hu (own w0.heap.size e size v n xs)).at
 cases a with
 | none =>
  have h0:els.length=0:=by
   rcases Nat.eq_zero_or_pos els.length with h0|h0
   ·exact h0
   ·obtain ⟨b,o,e,_⟩:=hel 0 h0;cases e
  have he:els=[]:=List.length_eq_zero_iff.1 h0
  subst he
  refine ⟨v,w,?_,h v w ?_⟩
  ·have hownr:w.ownsRow w0.heap.size e size v n xs:=hown
   rcases hownr.2 with ⟨rfl,rfl⟩|⟨g,cap',cur,rfl,_,_,hnc,_⟩
   ·simp [Builtin.append_,run_underlying ht.out,sizeOf,typeInfo,hi1,Builtin.lenOf,Builtin.firstCells]
   ·simp [Builtin.append_,run_underlying ht.out,sizeOf,typeInfo,hi1,Builtin.lenOf,Builtin.firstCells,hnc,storeCells]
  ·refine hL.upd (hu _) ⟨rfl,rfl,rfl,Nat.le_refl _,fun _ _ _=>rfl⟩ ?_ (fun b hb=>.inl hb)
   simpa using hown
 | some a =>
  have hlen:els.flatten.length=els.length*size:=by
   clear hel h hbytes h63 h1 hlc
   induction els with
   | nil=>simp
   | cons x els ih=>rw [List.flatten_cons,List.length_append,ih fun y hy=>hk y (List.mem_cons_of_mem _ hy),hk x List.mem_cons_self,List.length_cons,Nat.add_mul];omega
  obtain ⟨v',w',hr,h2,h3,_,h5⟩:=run_append_own_at (P:=P) w w0.heap.size t ty e i z size bytes ht.out hi1 hi2 hi3 hi4 hz hp v n xs hown a els.length cap els.flatten hlen (fun j y hj=>by
   have hpos:0<els.length:=by
    rcases Nat.eq_zero_or_pos els.length with h0|h0
    ·rw [List.length_eq_zero_iff.1 h0] at hj;simp at hj
    ·exact h0
   obtain ⟨b,o,e,_⟩:=hel 0 hpos
   cases e
   have:=cells_flat (w:=w) (b:=b) (o:=o) hk 0 (fun i hi=>by
    obtain ⟨b',o',e',hr⟩:=hel i hi
    cases e'
    simpa using hr) j y hj
   have hadd:(⟨b,o,none⟩:Addr).add j=⟨b,o+j,none⟩:=by unfold Addr.add;split <;> simp_all
   rw [hadd]
   simpa using this) (fun y hy=>by
   obtain ⟨x,hx,hyx⟩:=List.mem_flatten.1 hy
   exact h1 x hx y hyx) h63 hbytes hL.size
  refine ⟨v',w',hr,h v' w' (hL.upd (hu _) h3 h2 (fun b' hb'=>?_))⟩
  have hb'':v'.ownBlock=some b':=hb'
  rcases h5 with h5|h5
  ·exact .inl (h5.symm.trans hb'')
  ·rw [h5] at hb'';cases hb'';exact .inr (Nat.le_refl _)
theorem loadG {T:TypeId} {b off n:Nat} [hT:RowT P T n] {cs:List Value} {KV:Value→Prop} (hL:Holds w0 w M ((fun w=>w.rangeAt b off cs)::Φ)) (hn:n=cs.length) (h:KV (.agg cs.toArray)):LoadAt P T ⟨b,off,none⟩ w KV:=loadAt_cells hT cs hL.fact0 hn h
theorem Holds.dup {φ:World→Prop} (h:Holds w0 w M (φ::Φ)):Holds w0 w M (φ::φ::Φ):=h.facts fun ψ hψ=>h.firm ψ (by simp only [List.mem_cons] at hψ ⊢;rcases hψ with h|h|h <;> simp [h])
end
end Go.Proofs.YtmnoeoecjfhhbaaGreat
