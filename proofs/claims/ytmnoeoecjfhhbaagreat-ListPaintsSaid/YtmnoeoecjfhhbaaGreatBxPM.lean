/- Package path: Box: the box of a path. -/
import Derived.Test.YtmnoeoecjfhhbaaGreatSegM
import Derived.Test.YtmnoeoecjfhhbaaGreatWndM
namespace Go.Proofs.YtmnoeoecjfhhbaaGreat
open Go.RowKit
section
variable {P : Program} {ops : Array Oper} {Q : Exit → Act → World → Prop} {md : Region.Mode} {S : World → Prop} {m : Nat}
def wpAnyN (P:Program) (md:Region.Mode) (ops:Array Oper) (Q:Exit→Act→World→Prop) (S:World→Prop) (m:Nat):Nat→Array Bool→Act→World→Prop
 | 0,l,a,w=>Region.ready md ops l=[]∧Q .normal a w
 | n+1,l,a,w=>(Region.ready md ops l=[]→Q .normal a w)∧∀ i∈Region.ready md ops l,wpOp P ops Q i (fun a' w'=>(i<m→S w')∧wpAnyN P md ops Q S m n (l.setIfInBounds i true) a' w') a w
theorem wpAnyN.any {n:Nat} {l:Array Bool} {a:Act} {w:World} (h:wpAnyN P md ops Q S m n l a w):wpAny P md ops Q n l a w:=by
 induction n generalizing l a w with
 | zero=>exact h
 | succ n ih=>exact ⟨h.1,fun i hi=>wpOp_mono (fun _ _ k=>ih k.2) (h.2 i hi)⟩
theorem wpN_one {i:Nat} {n:Nat} {l:Array Bool} {a:Act} {w:World} (hr:Region.ready md ops l=[i]) (h:wpOp P ops Q i (fun a' w'=>(i<m→S w')∧wpAnyN P md ops Q S m n (l.setIfInBounds i true) a' w') a w):wpAnyN P md ops Q S m (n+1) l a w :=
 ⟨fun e=>(by rw [hr] at e;cases e),fun j hj=>(by rw [hr] at hj;simp at hj;subst hj;exact h)⟩
theorem wpN_done {n:Nat} {l:Array Bool} {a:Act} {w:World} (hr:Region.ready md ops l=[]) (h:Q .normal a w):wpAnyN P md ops Q S m n l a w:=by
 cases n with
 | zero=>exact ⟨hr,h⟩
 | succ n=>exact ⟨fun _=>h,fun i hi=>by rw [hr] at hi;cases hi⟩
end
section
variable {P : Program} {ops : Array Oper} {Q : Exit → Act → World → Prop} {md : Region.Mode} {V : Nat → World → Prop}
section
variable {P : Program} {ops : Array Oper} {Q : Exit → Act → World → Prop} {md : Region.Mode} {S : World → Prop}
theorem wpH_two {i j:Nat} {n:Nat} {l:Array Bool} {a:Act} {w:World} (hr:Region.ready md ops l=[i,j])
  (h1:wpOp P ops Q i (fun a' w'=>S w'∧wpAnyH P md ops Q S n (l.setIfInBounds i true) a' w') a w)
  (h2:wpOp P ops Q j (fun a' w'=>S w'∧wpAnyH P md ops Q S n (l.setIfInBounds j true) a' w') a w):wpAnyH P md ops Q S (n+1) l a w :=
 wpAnyH_all hr (by simp) fun k hk=>by
  simp only [List.mem_cons,List.not_mem_nil,or_false] at hk
  rcases hk with rfl|rfl
  ·exact h1
  ·exact h2
end
def pinned (md:Region.Mode) (ops:Array Oper) (m:Nat) (l:Array Bool) (k:Nat):Prop:=∀ s,m≤s→l.getD s false=true→waits md ops s k=false
def wpAnyV (P:Program) (md:Region.Mode) (ops:Array Oper) (Q:Exit→Act→World→Prop) (V:Nat→World→Prop) (m:Nat):Nat→Array Bool→Act→World→Prop
 | 0,l,a,w=>Region.ready md ops l=[]∧Q .normal a w
 | n+1,l,a,w=>(Region.ready md ops l=[]→Q .normal a w)∧∀ i∈Region.ready md ops l,wpOp P ops Q i (fun a' w'=>(∀ k,pinned md ops m (l.setIfInBounds i true) k→V k w')∧wpAnyV P md ops Q V m n (l.setIfInBounds i true) a' w') a w
theorem wpAnyV.any {m n:Nat} {l:Array Bool} {a:Act} {w:World} (h:wpAnyV P md ops Q V m n l a w):wpAny P md ops Q n l a w:=by
 induction n generalizing l a w with
 | zero=>exact h
 | succ n ih=>exact ⟨h.1,fun i hi=>wpOp_mono (fun _ _ k=>ih k.2) (h.2 i hi)⟩
theorem getD_setF {l:Array Bool} {i s:Nat} (h:l.getD s false=true):(l.setIfInBounds i true).getD s false=true:=by
 rw [Array.getD_eq_getD_getElem?] at h ⊢
 rw [Array.getElem?_setIfInBounds]
 split
 ·rename_i e
  subst e
  have:i<l.size:=by
   rcases Nat.lt_or_ge i l.size with g|g
   ·exact g
   ·rw [Array.getElem?_eq_none g] at h;simp at h
  rw [if_pos this];rfl
 ·exact h
theorem getD_unsetF {l:Array Bool} {i s:Nat} (hne:s≠i) (h:(l.setIfInBounds i true).getD s false=true):l.getD s false=true:=by
 rw [Array.getD_eq_getD_getElem?] at h ⊢
 rwa [Array.getElem?_setIfInBounds,if_neg (fun e=>hne e.symm)] at h
theorem pinned_less {m i k:Nat} {l:Array Bool} (h:pinned md ops m (l.setIfInBounds i true) k):pinned md ops m l k:=fun s hs hd=>h s hs (getD_setF hd)
theorem pinned_set {m i k:Nat} {l:Array Bool} (hi:i<m) (h:pinned md ops m l k):pinned md ops m (l.setIfInBounds i true) k:=fun s hs hd=>h s hs (getD_unsetF (by omega) hd)
theorem take_V {m i:Nat} {oi:Oper} {v:Value} (him:i<m) (hi:ops[i]?=some oi) (hs:Region.noSelect ops=true) (hQ:∀ c a w,Q (.panic c) (a.put oi.dst v) w→Q (.panic c) a w) {n:Nat} :
  ∀ {l:Array Bool} {a:Act} {w:World},(∀ j oj,ops[j]?=some oj→j≠i→l.getD j true=false→(∀ e∈oj.after,Region.binds md e=true→e.on≠i)→oi.apart ops oj=true) →
   i∈Region.ready md ops l→YieldsIf P ops (V i) oi v a→pinned md ops m l i→(∀ k,pinned md ops m l k→V k w)→wpAnyV P md ops Q V m n (l.setIfInBounds i true) (a.put oi.dst v) w→wpAnyV P md ops Q V m (n+1) l a w:=by
 induction n with
 | zero =>
  intro l a w _ hr hy hp hV H
  refine ⟨fun e=>absurd (e▸hr) (by simp),fun j hj=>?_⟩
  rcases Decidable.em (j=i) with rfl|hne
  ·exact hy.wpOp hi (hV _ hp) ⟨fun k hk=>hV k (pinned_less hk),H⟩
  ·exact absurd (H.1▸ready_mono hj hne) (by simp)
 | succ n ih =>
  intro l a w hfree hr hy hp hV H
  refine ⟨fun e=>absurd (e▸hr) (by simp),fun j hj=>?_⟩
  rcases Decidable.em (j=i) with rfl|hne
  ·exact hy.wpOp hi (hV _ hp) ⟨fun k hk=>hV k (pinned_less hk),H⟩
  obtain ⟨hun,oj,hoj,hall⟩:=mem_ready.1 hj
  have hoff:∀ e∈oj.after,Region.binds md e=true→e.on≠i:=fun e he hb heq=>by
   have h1:=hall e he hb
   have h0:=(mem_ready.1 hr).1
   rw [heq,Array.getD_eq_getD_getElem?] at h1
   rw [Array.getD_eq_getD_getElem?] at h0
   cases hl:l[i]? with
   | none=>rw [hl] at h0;simp at h0
   | some b=>rw [hl] at h0 h1;simp at h0 h1;rw [h0] at h1;cases h1
  have hwj:waits md ops j i=false:=by
   cases hw:waits md ops j i with
   | false=>rfl
   | true=>exact absurd hj (waits_not hw hr)
  have hpj:pinned md ops m (l.setIfInBounds j true) i:=fun s hs hd=>by
   rcases Decidable.em (s=j) with rfl|hsj
   ·exact hwj
   ·exact hp s hs (getD_unsetF hsj hd)
  have step:=wpOp_putIf hoj (hfree j oj hoj hne hun hoff) (fun cs b=>Region.noSelect_spec hs i oi cs b hi) (fun cs b=>Region.noSelect_spec hs j oj cs b hoj) hQ hy (H.2 j (ready_mono hj hne))
  have hV':∀ w',(∀ k,pinned md ops m ((l.setIfInBounds i true).setIfInBounds j true) k→V k w')→∀ k,pinned md ops m (l.setIfInBounds j true) k→V k w':=fun w' h k hk=>h k (by rw [←Array.setIfInBounds_comm _ _ hne];exact pinned_set him hk)
  refine wpOp_mono (fun a' w' h3=>⟨hV' w' h3.2.1,ih (fun k ok hk hki hku hno=>?_) (ready_mono hr (Ne.symm hne)) h3.1 hpj (hV' w' h3.2.1) ?_⟩) step
  ·refine hfree k ok hk hki ?_ hno
   rcases Decidable.em (j=k) with rfl|hjk
   ·exact hun
   ·rwa [getD_set_ne true hjk] at hku
  ·rw [Array.setIfInBounds_comm _ _ hne]
   exact h3.2.2
theorem stV {m i:Nat} (v:Value) {oi:Oper} {n:Nat} {l:Array Bool} {a:Act} {w:World} (h6:∀ k,pinned md ops m l k→V k w) (hy:(∀ w,V i w→(execOp a.eval oi).run P w=.ok (.value v) w)) (h9:wpAnyV P md ops Q V m n (l.setIfInBounds i true) (a.put oi.dst v) w) (hp:pinned md ops m l i)
  (him:i<m:=by decide) (hi:ops[i]?=some oi:=by (simp only [List.getElem?_toArray,List.getElem?_cons_zero,List.getElem?_cons_succ];rfl))
  (h1:Region.noSelect ops=true:=by kernel_rfl) (h2:Region.free md ops l i=true:=by kernel_rfl) (h3:(Region.ready md ops l).contains i=true:=by kernel_rfl)
  (h5:∀ c a w,Q (.panic c) (a.put oi.dst v) w→Q (.panic c) a w:=by exact fun _ _ _ h=>h) (h7:Region.wanted oi (yielded ops a.tmps)=true:=by rfl):wpAnyV P md ops Q V m (n+1) l a w :=
 take_V him hi h1 h5 (Region.free_spec hi h2) (by simpa using h3) (.inl ⟨h7,hy⟩) hp h6 h9
theorem deV {P:Program} {md:Region.Mode} {ops:Array Oper} {Q:Exit→Act→World→Prop} {V:Nat→World→Prop} {m:Nat} (i:Nat) {v:Value} {oi:Oper} {n:Nat} {l l':Array Bool} {a a':Act} {w:World} (h6:∀ k,pinned md ops m l k→V k w) (h9:wpAnyV P md ops Q V m n l' a' w) (hi:ops[i]?=some oi:=by (simp only [List.getElem?_toArray,List.getElem?_cons_zero,List.getElem?_cons_succ];rfl)) (hy:∀ w,(execOp a.eval oi).run P w=.ok (.value v) w:=by exact fun w'=>(by (go_simp;try with_reducible rfl))) (hl:l.setIfInBounds i true=l':=by (first|(simp only [setP];rfl)|rfl)) (ha:a.put oi.dst v=a':=by (first|(simp only [Act.put,setP];rfl)|rfl)) (hp:pinned md ops m l i:=by (repeat (first|exact pinned_none|refine pinned_put ?_))) (him:i<m:=by decide) (h1:Region.noSelect ops=true:=by kernel_rfl) (h2:Region.free md ops l i=true:=by kernel_rfl) (h3:(Region.ready md ops l).contains i=true:=by kernel_rfl) (h5:∀ c a w,Q (.panic c) (a.put oi.dst v) w→Q (.panic c) a w:=by exact fun _ _ _ h=>h) (h7:Region.wanted oi (yielded ops a.tmps)=true:=by rfl):wpAnyV P md ops Q V m (n+1) l a w:=by
 subst hl;subst ha
 exact stV (i:=i) v h6 (fun w _=>hy w) h9 hp him hi h1 h2 h3 h5 h7
theorem dlV {P:Program} {md:Region.Mode} {ops:Array Oper} {Q:Exit→Act→World→Prop} {V:Nat→World→Prop} {m:Nat} (i:Nat) (v:Value) {oi:Oper} {n:Nat} {l:Array Bool} {a:Act} {w:World} {T:TypeId} {x:Operand} {p:Addr} (h6:∀ k,pinned md ops m l k→V k w) (hr:∀ w,V i w→LoadAt P T p w fun u=>u=v) (h9:wpAnyV P md ops Q V m n (l.setIfInBounds i true) (a.put oi.dst v) w) (hi:ops[i]?=some oi:=by (simp only [List.getElem?_toArray,List.getElem?_cons_zero,List.getElem?_cons_succ];rfl)) (ho:oi.op=.load T x:=by rfl) (hx:a.eval x=.pointer (some p):=by rfl) (hp:pinned md ops m l i:=by (repeat (first|exact pinned_none|refine pinned_put ?_))) (him:i<m:=by decide) (h1:Region.noSelect ops=true:=by kernel_rfl) (h2:Region.free md ops l i=true:=by kernel_rfl) (h3:(Region.ready md ops l).contains i=true:=by kernel_rfl) (h5:∀ c a w,Q (.panic c) (a.put oi.dst v) w→Q (.panic c) a w:=by exact fun _ _ _ h=>h) (h7:Region.wanted oi (yielded ops a.tmps)=true:=by rfl):wpAnyV P md ops Q V m (n+1) l a w:=stV (i:=i) v h6 (fun w' hw=>run_loadOp T x ho p hx v (hr w' hw)) h9 hp him hi h1 h2 h3 h5 h7
theorem wpV_one {m i:Nat} {n:Nat} {l:Array Bool} {a:Act} {w:World} (hr:Region.ready md ops l=[i]) (h:wpOp P ops Q i (fun a' w'=>(∀ k,pinned md ops m (l.setIfInBounds i true) k→V k w')∧wpAnyV P md ops Q V m n (l.setIfInBounds i true) a' w') a w):wpAnyV P md ops Q V m (n+1) l a w :=
 ⟨fun e=>(by rw [hr] at e;cases e),fun j hj=>(by rw [hr] at hj;simp at hj;subst hj;exact h)⟩
theorem wpV_done {m n:Nat} {l:Array Bool} {a:Act} {w:World} (hr:Region.ready md ops l=[]) (h:Q .normal a w):wpAnyV P md ops Q V m n l a w:=by
 cases n with
 | zero=>exact ⟨hr,h⟩
 | succ n=>exact ⟨fun _=>h,fun i hi=>by rw [hr] at hi;cases hi⟩
theorem wpV_begin {id:Nat} {a:Act} {w:World} (hm:P.follows .mixedOrders=true) (V:Nat→World→Prop) (m:Nat) (h:wpAnyV P .any ops Q V m ops.size (Array.replicate ops.size false) a w.drew):(Code.region id ops true).wp P Q a w :=
 wp_region_any hm h.any
theorem pinned_none {m k n:Nat}:pinned md ops m (Array.replicate n false) k:=fun s _ hd=>by
 rw [Array.getD_eq_getD_getElem?,Array.getElem?_replicate] at hd
 split at hd <;> simp at hd
theorem pinned_put {m k i:Nat} {l:Array Bool} (h:pinned md ops m l k) (hi:i<m:=by decide):pinned md ops m (l.setIfInBounds i true) k:=pinned_set hi h
def four (i0 i1 i2 i3:Nat) (C0 C1 C2 C3:World→Prop) (k:Nat) (w:World):Prop:=(k=i0→C0 w)∧(k=i1→C1 w)∧(k=i2→C2 w)∧(k=i3→C3 w)
end
theorem wpH_laterN {P:Program} {ops:Array Oper} {Q:Exit→Act→World→Prop} {id:Nat} {a:Act} {w:World} (hm:P.follows .mixedOrders=true) (h:Below w.heap.size w w.drew→wpAnyH P .any ops Q (fun w'=>Below w.heap.size w w') ops.size (Array.replicate ops.size false) a w.drew):(Code.region id ops true).wp P Q a w :=
 wpH_begin hm (fun w'=>Below w.heap.size w w') (h (Below.refl _ _).drew)
theorem run_minV {o:Oper} {a:Act} {w:World} {P:Program} (x y:Operand) (t t':TypeId) (ho:o.op=.call { callee:=.builtin .min,args:=#[x,y],argTypes:=#[t,t'] }) {m n:Int} (hx:a.eval x=.int .i64 m) (hy:a.eval y=.int .i64 n):(execOp a.eval o).run P w=.ok (.value (.int .i64 (min m n))) w:=by
 simp [execOp,ho,hx,hy,resolve,invoke,builtin,Builtin.min_,Builtin.min2]
 by_cases hmn:m≤n
 ·simp [Int.min_def,hmn];omega
 ·simp [Int.min_def,hmn]
theorem run_maxV {o:Oper} {a:Act} {w:World} {P:Program} (x y:Operand) (t t':TypeId) (ho:o.op=.call { callee:=.builtin .max,args:=#[x,y],argTypes:=#[t,t'] }) {m n:Int} (hx:a.eval x=.int .i64 m) (hy:a.eval y=.int .i64 n):(execOp a.eval o).run P w=.ok (.value (.int .i64 (max m n))) w:=by
 simp [execOp,ho,hx,hy,resolve,invoke,builtin,Builtin.max_,Builtin.max2]
 by_cases hmn:m≤n
 ·simp [Int.max_def,hmn];omega
 ·simp [Int.max_def,hmn];omega
open Go.RowKit
structure Bx where
 x0:Int
 y0:Int
 x1:Int
 y1:Int
structure Ne4 (b0 b1 b2 b3:Nat):Prop where
 h01:¬b0=b1
 h02:¬b0=b2
 h03:¬b0=b3
 h12:¬b1=b2
 h13:¬b1=b3
 h23:¬b2=b3
end Go.Proofs.YtmnoeoecjfhhbaaGreat
