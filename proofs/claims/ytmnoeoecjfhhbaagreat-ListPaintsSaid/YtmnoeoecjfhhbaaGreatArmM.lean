/- Short steps in a drawn region. -/
import Derived.Test.YtmnoeoecjfhhbaaGreatTypes
import Derived.Test.YtmnoeoecjfhhbaaGreatRows
import Derived.Deep.QuietTactic
import Derived.BigQuiet
import Derived.ProofKit
import Derived.SizedLaws
import Derived.OrdersHeld
namespace Go.Proofs.YtmnoeoecjfhhbaaGreat
open Go.RowKit
section
variable {P : Program} {w0 w : World} {M M' : List Res} {Φ : List (World → Prop)} {K : Value → Prop} {KW : World → Prop} {K2 : Value → World → Prop}
theorem loadA {T:TypeId} {b off:Nat} [hT:ScalarT P T] (hL:Holds w0 w M Φ) {cs:Array Value} {T':TypeId} {v:Value} (h:K v)
  (hat:At M (blk b cs T'):=by (repeat (first|with_reducible exact At.here|with_reducible apply At.there)))
  (hv:cs[off]?=some v:=by (first|with_reducible exact arrB_get _ (by omega)|with_reducible exact arrI_get _ (by omega)|with_reducible exact arrU_get _ (by omega)|(simp only [List.getElem?_toArray,List.getElem?_cons_zero];rfl)|(simp only [List.getElem?_toArray,List.getElem?_cons_zero,List.getElem?_cons_succ];rfl)|rfl)):LoadAt P T ⟨b,off,none⟩ w K:=loadAt_blk hT hL cs T' hat v hv h
theorem loadR {T:TypeId} {b off n:Nat} [hT:RowT P T n] (hL:Holds w0 w M Φ) {cs:Array Value} {T':TypeId} (h:K (.agg cs))
  (h0:off=0:=by with_reducible rfl) (hat:At M (blk b cs T'):=by (repeat (first|with_reducible exact At.here|with_reducible apply At.there)))
  (hn:n=cs.size:=by (first|rfl|(simp only [arrB_size];done)|(simp only [arrI_size];done))):LoadAt P T ⟨b,off,none⟩ w K:=by
 subst h0
 exact loadAt_row hT hL cs T' hat hn h
theorem loadC {T:TypeId} {p:Addr} [hT:ScalarT P T] (hL:Holds w0 w M Φ) {v:Value} (h:K v) (hc:w0.cell? p=some v:=by with_reducible assumption):LoadAt P T p w K:=loadAt_cell hT v (hL.old hc) h
theorem loadD {T:TypeId} {p:Addr} [hT:ScalarT P T] {v:Value} (h:K v) (hc:w.cell? p=some v:=by with_reducible assumption):LoadAt P T p w K:=loadAt_cell hT v hc h
theorem loadE {T:TypeId} {b off n:Nat} [hT:RowT P T n] (hL:Holds w0 w M Φ) {cs:List Value} (h:K (.agg cs.toArray)) (hc:w0.rangeAt b off cs:=by with_reducible assumption) (hn:n=cs.length:=by rfl):LoadAt P T ⟨b,off,none⟩ w K:=loadAt_cells hT cs (hL.olds hc) hn h
theorem loadF {T:TypeId} {b off n:Nat} [hT:RowT P T n] {cs:List Value} (h:K (.agg cs.toArray)) (hc:w.rangeAt b off cs:=by with_reducible assumption) (hn:n=cs.length:=by rfl):LoadAt P T ⟨b,off,none⟩ w K:=loadAt_cells hT cs hc hn h
theorem storeA {T:TypeId} {b off:Nat} {v:Value} [hT:ScalarT P T] (hL:Holds w0 w M Φ) {cs:Array Value} {T':TypeId} {cs':Array Value} (h:∀ w',Holds w0 w' M' Φ→KW w')
  (h1:v.cells=#[v]:=by rfl) (hv1:v.oneCell'=true:=by rfl)
  (hu:Upd M (blk b cs T') (blk b cs' T') M':=by (repeat (first|with_reducible exact Upd.here|with_reducible apply Upd.there)))
  (hoff:off<cs.size:=by (first|(rw [arrB_size];omega)|(rw [arrI_size];omega)|(rw [arrU_size];omega)|(simp only [List.size_toArray,List.length_cons,List.length_nil];omega)|omega))
  (hcs:cs.setIfInBounds off v=cs':=by (first|with_reducible exact arrB_set _ _ (by omega)|with_reducible exact arrI_set _ _ (by omega)|with_reducible exact arrU_set _ _ (by omega)|(simp only [setP];rfl)|rfl)):StoreAt P T ⟨b,off,none⟩ v w KW:=storeAt_cell h1 hv1 hT hL cs T' cs' hu hoff hcs h
theorem storeR {T:TypeId} {b off n:Nat} {cs':Array Value} [hT:RowT P T n] (hL:Holds w0 w M Φ) {cs:Array Value} {T':TypeId} (h:∀ w',Holds w0 w' M' Φ→KW w')
  (h0:off=0:=by with_reducible rfl) (hv1:cs'.all (·.oneCell')=true:=by (first|exact arrB_one _|exact arrI_one _ _|(simp [Value.oneCell'];done)|rfl))
  (hu:Upd M (blk b cs T') (blk b cs' T') M':=by (repeat (first|with_reducible exact Upd.here|with_reducible apply Upd.there)))
  (hsz:cs.size=cs'.size:=by (first|rfl|(simp only [arrB_size];done)|(simp only [arrI_size];done))) (hn:n=cs'.size:=by (first|rfl|(simp only [arrB_size];done)|(simp only [arrI_size];done))):StoreAt P T ⟨b,off,none⟩ (.agg cs') w KW:=by
 subst h0
 exact storeAt_row hT hv1 hL cs T' hu hsz hn h
theorem litA1 {t e size bytes:Nat} {z:Value} {vp:Array (Nat × Value)} {v0:Value} {cs:Array Value} [ht:SliceT P t e] [hi:ElemT P e size bytes z]
  (hL:Holds w0 w M Φ) (h:∀ b w',Holds w0 w' (blk b cs e::M) Φ→K2 (.slice (some ⟨b,0,none⟩) 1 1) w')
  (hvs:vp=#[(0,v0)]:=by (simp only [List.map_toArray,List.map_cons,List.map_nil];rfl)) (hv:[v0].all (fun v=>decide (v.cells.size=size))=true:=by (simp [go_sem,Value.cells];done)) (hsm:1*size≤16777216:=by decide) (hcs:litCells [v0]=cs:=by (simp [go_sem,litCells,Value.cells];rfl)):LitAt P t 1 vp w K2:=litAt1 v0 hvs ht hi hv hsm cs hcs hL h
theorem litA2 {t e size bytes:Nat} {z:Value} {vp:Array (Nat × Value)} {v0 v1:Value} {cs:Array Value} [ht:SliceT P t e] [hi:ElemT P e size bytes z]
  (hL:Holds w0 w M Φ) (h:∀ b w',Holds w0 w' (blk b cs e::M) Φ→K2 (.slice (some ⟨b,0,none⟩) 2 2) w')
  (hvs:vp=#[(0,v0),(1,v1)]:=by (simp only [List.map_toArray,List.map_cons,List.map_nil];rfl)) (hv:[v0,v1].all (fun v=>decide (v.cells.size=size))=true:=by (simp [go_sem,Value.cells];done)) (hsm:2*size≤16777216:=by decide) (hcs:litCells [v0,v1]=cs:=by (simp [go_sem,litCells,Value.cells];rfl)):LitAt P t 2 vp w K2:=litAt2 v0 v1 hvs ht hi hv hsm cs hcs hL h
theorem appendA {t ty e size bytes:Nat} {z v:Value} {b m c:Nat} [ht:SliceT P t e] [hi:ElemT P e size bytes z]
  (hL:Holds w0 w M Φ) {news:Array Value} {T':TypeId} {n:Nat} {xs:List Value} {f:Res→List Res}
  (h:∀ g cap w',Holds w0 w' (f (own w0.heap.size e size (.slice (some ⟨g,0,none⟩) (n+m) cap) (n+m) (xs++news.toList))) Φ→K2 (.slice (some ⟨g,0,none⟩) (n+m) cap) w')
  (hrem:Rem M (blk b news T') M':=by (repeat (first|with_reducible exact Rem.here|with_reducible apply Rem.there)))
  (hu:∀ r',Upd M' (own w0.heap.size e size v n xs) r' (f r'):=by intro _;(repeat (first|with_reducible exact Upd.here|with_reducible apply Upd.there)))
  (hz:z.cells.size=size:=by rfl) (hp:0<size:=by decide) (hl:news.size=m*size:=by (first|rfl|omega)) (h1:news.all (·.oneCell')=true:=by (first|exact arrB_one _|exact arrI_one _ _|(simp [Value.oneCell'];done)|rfl))
  (hm:0<m:=by (first|decide|omega)) (h63:n+m≤maxLen:=by (unfold maxLen;omega)) (hbytes:(n+m)*bytes≤140737488355328:=by omega):AppendAt P t ty v (.slice (some ⟨b,0,none⟩) m c) w K2 :=
 appendAt ht hi hL news T' hrem n xs f hu hz hp hl h1 hm h63 hbytes h
theorem makeA {t e bytes:Nat} {z:Value} {L:Int} {n:Nat} [ht:SliceT P t e] [hi:ElemT P e 1 bytes z] (hL:Holds w0 w M Φ) (h:∀ b w',Holds w0 w' (blk b (List.replicate n z).toArray e::M) Φ→K2 (.slice (some ⟨b,0,none⟩) n n) w')
  (hz:z.cells=#[z]:=by rfl) (hL0:L=(n:Int):=by (first|rfl|exact (Int.toNat_of_nonneg (by omega)).symm)) (hb:bytes*n≤281474976710656:=by omega) (hm:n≤maxLen:=by (unfold maxLen;omega)):MakeAt P t L w K2:=makeAt ht hi hz n hL0 hb hm hL h
theorem indexA {T e:TypeId} {i:Int} {p:Nat→Bool} [hT:ArrT P T 64 e] (h:K (.bool (p i.toNat))) (h0:0≤i:=by omega) (h1:i<64:=by omega):IndexAt P T (.agg (arrB p)) i w K:=indexAt_B hT h0 h1 h
theorem cindexA {T e:TypeId} {i:Int} {p:Nat→Bool} {m:Nat} [hT:ArrT P T 64 e] (h:K (.bool (p m))) (h0:0≤i:=by omega) (h1:i<64:=by omega) (hm:i.toNat=m:=by (first|exact Int.toNat_natCast _|rfl)):IndexAt P T (.agg (arrB p)) i w K:=by subst hm;exact indexA h h0 h1
theorem indexC {T e:TypeId} {n:Nat} {i:Int} {cs:Array Value} {v:Value} [hT:ArrT P T n e] (h:K v) (h0:0≤i:=by omega) (h1:i<(n:Int):=by omega) (hv:cs[i.toNat]?=some v:=by (first|with_reducible exact arrB_get _ (by omega)|with_reducible exact arrI_get _ (by omega)|with_reducible exact arrU_get _ (by omega)|(simp only [List.getElem?_toArray,List.getElem?_cons_zero];rfl)|(simp only [List.getElem?_toArray,List.getElem?_cons_zero,List.getElem?_cons_succ];rfl)|rfl)):IndexAt P T (.agg cs) i w K:=indexAt hT v h0 h1 hv h
end
open Go.RowKit
theorem atO {M:List Res} {r:Res} (h:At M r:=by (repeat (first|with_reducible exact At.here|with_reducible apply At.there))):At M r:=h
theorem updO {M M':List Res} {r r':Res} (h:Upd M r r' M':=by (repeat (first|with_reducible exact Upd.here|with_reducible apply Upd.there))):Upd M r r' M':=h
theorem Holds.row {w0 w:World} {M:List Res} {Φ:List (World→Prop)} {b:Nat} {cs:Array Value} {T:TypeId} (hL:Holds w0 w M Φ) (k:At M (blk b cs T)):w.heap[b]?=some (.cells cs T (0,0)):=hL.at k
theorem ret_int {k:IntKind} {a b:Int} (h:a=b):Ending.returned (.int k a)=.returned (.int k b):=by rw [h]
theorem ret_bool {a b:Bool} (h:a=b):Ending.returned (.bool a)=.returned (.bool b):=by rw [h]
def SliceOut (k:Nat) (els:List (List Value)) (w:World) (e:Ending) (w':World):Prop :=
 ∃ v,e=.returned v∧Below w.heap.size w w'∧Fresh w w' (fun w=>SliceAt w k v els)
def NumsAt (w:World) (v:Value) (l:List Int):Prop:=SliceAt w 1 v (l.map fun n=>[.int .i64 n])
theorem NumsAt.parts {w:World} {s:Value} {l:List Int} (h:NumsAt w s l) :
  ∃ a cap,s=.slice a l.length cap∧l.length≤cap∧cap≤maxLen∧∀ i,i<l.length→∃ b o,a=some ⟨b,o,none⟩∧w.cell? ⟨b,o+i,none⟩=some (.int .i64 (l.getD i 0)):=by
 obtain ⟨a,cap,h2,h3,h4,h5⟩:=h
 simp only [List.length_map] at h2 h3 h5
 refine ⟨a,cap,h2,h3,h4,fun i hi=>?_⟩
 obtain ⟨b,o,e,hr⟩:=h5 i hi
 refine ⟨b,o,e,?_⟩
 have:=hr 0 (.int .i64 (l.getD i 0)) (by simp [hi])
 simpa using this
theorem NumsAt.hold {w0 w:World} {M:List Res} {Φ:List (World→Prop)} {v:Value} {l:List Int} (h:NumsAt w0 v l) (hL:Holds w0 w M Φ):NumsAt w v l:=SliceAt.below h hL.below
theorem litA3 {P:Program} {w0 w:World} {M:List Res} {Φ:List (World→Prop)} {K2:Value→World→Prop} {t e size bytes:Nat} {z:Value} {vp:Array (Nat × Value)} {v0 v1 v2:Value} {cs:Array Value} [ht:SliceT P t e] [hi:ElemT P e size bytes z]
  (hL:Holds w0 w M Φ) (h:∀ b w',Holds w0 w' (blk b cs e::M) Φ→K2 (.slice (some ⟨b,0,none⟩) 3 3) w')
  (hvs:vp=#[(0,v0),(1,v1),(2,v2)]:=by (simp only [List.map_toArray,List.map_cons,List.map_nil];rfl)) (hv:[v0,v1,v2].all (fun v=>decide (v.cells.size=size))=true:=by (simp [go_sem,Value.cells];done)) (hsm:3*size≤16777216:=by decide) (hcs:litCells [v0,v1,v2]=cs:=by (simp [go_sem,litCells,Value.cells];rfl)):LitAt P t 3 vp w K2:=litAt3 v0 v1 v2 hvs ht hi hv hsm cs hcs hL h
theorem litA4 {P:Program} {w0 w:World} {M:List Res} {Φ:List (World→Prop)} {K2:Value→World→Prop} {t e size bytes:Nat} {z:Value} {vp:Array (Nat × Value)} {v0 v1 v2 v3:Value} {cs:Array Value} [ht:SliceT P t e] [hi:ElemT P e size bytes z]
  (hL:Holds w0 w M Φ) (h:∀ b w',Holds w0 w' (blk b cs e::M) Φ→K2 (.slice (some ⟨b,0,none⟩) 4 4) w')
  (hvs:vp=#[(0,v0),(1,v1),(2,v2),(3,v3)]:=by (simp only [List.map_toArray,List.map_cons,List.map_nil];rfl)) (hv:[v0,v1,v2,v3].all (fun v=>decide (v.cells.size=size))=true:=by (simp [go_sem,Value.cells];done)) (hsm:4*size≤16777216:=by decide) (hcs:litCells [v0,v1,v2,v3]=cs:=by (simp [go_sem,litCells,Value.cells];rfl)):LitAt P t 4 vp w K2:=litAt4 v0 v1 v2 v3 hvs ht hi hv hsm cs hcs hL h
theorem litA6 {P:Program} {w0 w:World} {M:List Res} {Φ:List (World→Prop)} {K2:Value→World→Prop} {t e size bytes:Nat} {z:Value} {vp:Array (Nat × Value)} {v0 v1 v2 v3 v4 v5:Value} {cs:Array Value} [ht:SliceT P t e] [hi:ElemT P e size bytes z]
  (hL:Holds w0 w M Φ) (h:∀ b w',Holds w0 w' (blk b cs e::M) Φ→K2 (.slice (some ⟨b,0,none⟩) 6 6) w')
  (hvs:vp=#[(0,v0),(1,v1),(2,v2),(3,v3),(4,v4),(5,v5)]:=by (simp only [List.map_toArray,List.map_cons,List.map_nil];rfl)) (hv:[v0,v1,v2,v3,v4,v5].all (fun v=>decide (v.cells.size=size))=true:=by (simp [go_sem,Value.cells];done)) (hsm:6*size≤16777216:=by decide) (hcs:litCells [v0,v1,v2,v3,v4,v5]=cs:=by (simp [go_sem,litCells,Value.cells];rfl)):LitAt P t 6 vp w K2:=litAt ht hi [v0,v1,v2,v3,v4,v5] hvs rfl hv hsm cs hcs hL h
open Go.RowKit
structure Edg where
 x0:Int
 y0:Int
 bent:Bool
 cx:Int
 cy:Int
 x1:Int
 y1:Int
instance : Inhabited Edg := ⟨⟨0, 0, false, 0, 0, 0, 0⟩⟩
def edgeC (e:Edg):List Value:=[.int .i64 e.x0,.int .i64 e.y0,.bool e.bent,.int .i64 e.cx,.int .i64 e.cy,.int .i64 e.x1,.int .i64 e.y1]
def edgeV (e:Edg):Value:=.agg #[.int .i64 e.x0,.int .i64 e.y0,.bool e.bent,.int .i64 e.cx,.int .i64 e.cy,.int .i64 e.x1,.int .i64 e.y1]
def EdgesAt (w:World) (v:Value) (l:List Edg):Prop:=SliceAt w 7 v (l.map edgeC)
theorem EdgesAt.hold {w0 w:World} {M:List Res} {Φ:List (World→Prop)} {v:Value} {l:List Edg} (h:EdgesAt w0 v l) (hL:Holds w0 w M Φ):EdgesAt w v l:=SliceAt.below h hL.below
theorem EdgesAt.parts {w:World} {s:Value} {l:List Edg} (h:EdgesAt w s l) :
  ∃ a cap,s=.slice a l.length cap∧l.length≤cap∧cap≤maxLen∧∀ i,i<l.length→∃ b o,a=some ⟨b,o,none⟩∧w.rangeAt b (o+i*7) (edgeC (l.getD i default)):=by
 obtain ⟨a,cap,h2,h3,h4,h5⟩:=h
 simp only [List.length_map] at h2 h3 h5
 refine ⟨a,cap,h2,h3,h4,fun i hi=>?_⟩
 obtain ⟨b,o,e,hr⟩:=h5 i hi
 refine ⟨b,o,e,?_⟩
 simp only [List.getElem_map] at hr
 rw [show l.getD i default=l[i] by simp [hi]]
 exact hr
def near1 (v:Int):Bool:=decide (-8191≤v)&&decide (v≤8191)
def mayE (e:Edg):Bool:=near1 e.x0&&(near1 e.y0&&(near1 e.cx&&(near1 e.cy&&(near1 e.x1&&(near1 e.y1&&(e.bent || (decide (e.cx=0)&&decide (e.cy=0))))))))
open Go.RowKit
theorem Holds.setOwn {w0 w:World} {M M':List Res} {Φ:List (World→Prop)} {B:Nat} {e:TypeId} {k n cap g off:Nat} {xs:List Value} {v:Value} (h:Holds w0 w M Φ)
  (hu:Upd M (own B e k (.slice (some ⟨g,0,none⟩) n cap) n xs) (own B e k (.slice (some ⟨g,0,none⟩) n cap) n (xs.set off v)) M') (hoff:off<xs.length) :
  Holds w0 (w.setCell ⟨g,off,none⟩ v) M' Φ∧w.cell? ⟨g,off,none⟩=some xs[off]∧w.frozen? ⟨g,off,none⟩=false:=by
 obtain ⟨h1,h2|⟨g',cap',cur,hv,hb,hg,hnc,hcm,hcs,ht⟩⟩:=h.at hu.at
 ·cases h2.1
 ·cases hv
  have hlt:off<n*k:=by omega
  have hoc:off<cur.size:=by rw [hcs];exact Nat.lt_of_lt_of_le hlt (Nat.mul_le_mul_right k hnc)
  have hc:w.cell? ⟨g,off,none⟩=some xs[off]:=by
   rw [cell_of_row w g off cur e (0,0) hg]
   have:xs[off]?=cur[off]?:=by rw [←ht,List.getElem?_take,if_pos hlt];simp
   rw [←this];simp [hoff]
  refine ⟨?_,hc,frozen_of_row w g off cur e hg⟩
  rw [setCell_eq_setRow w g off cur e (0,0) v hg]
  refine h.upd hu ⟨rfl,rfl,rfl,by simp,fun b hb' hne=>setRow_other w g b _ (fun e=>hne (by subst e;rfl))⟩ ⟨by rw [List.length_set];exact h1,.inr ⟨g,cap,cur.setIfInBounds off v,rfl,hb,setRow_heap w g cur _ e (0,0) hg,hnc,hcm,by rw [Array.size_setIfInBounds];exact hcs,?_⟩⟩ (fun b hb'=>.inl hb')
  rw [←ht]
  apply List.ext_getElem?
  intro i
  rw [List.getElem?_take,List.getElem?_set,List.getElem?_take]
  simp only [Array.getElem?_toList,Array.getElem?_setIfInBounds]
  by_cases hi:i<n*k
  ·simp only [hi,if_true]
   by_cases hio:off=i
   ·subst hio;simp [hoc]
    omega
   ·simp [hio]
  ·have:¬off=i:=by omega
   simp [hi,this]
theorem storeAt_own {P:Program} {w0 w:World} {M M':List Res} {Φ:List (World→Prop)} {KW:World→Prop} {T:TypeId} {g off:Nat} {v:Value} (h1:v.cells=#[v]) (hv1:v.oneCell'=true) (hT:ScalarT P T)
  (hL:Holds w0 w M Φ) (B:Nat) (e:TypeId) (k n cap:Nat) (xs:List Value) (hu:Upd M (own B e k (.slice (some ⟨g,0,none⟩) n cap) n xs) (own B e k (.slice (some ⟨g,0,none⟩) n cap) n (xs.set off v)) M') (hoff:off<xs.length)
  (h:∀ w',Holds w0 w' M' Φ→KW w'):StoreAt P T ⟨g,off,none⟩ v w KW:=by
 obtain ⟨hH,hc,hf⟩:=hL.setOwn hu hoff
 refine ⟨w.setCell ⟨g,off,none⟩ v,?_,h _ hH⟩
 have hi:=hT.size
 cases hq:P.info? T with
 | none=>simp [hq] at hi
 | some i =>
  have hs:i.size=1:=by simpa [hq] using hi
  simp [Sem.run_bind,storeVar,sizeOf,typeInfo,hq,hs,h1,storeCells,run_store,hv1,hc,hf,Addr.add]
theorem storeO {P:Program} {w0 w:World} {M M':List Res} {Φ:List (World→Prop)} {KW:World→Prop} {T:TypeId} {g off:Nat} {v:Value} [hT:ScalarT P T] (hL:Holds w0 w M Φ) {B:Nat} {e:TypeId} {k n cap:Nat} {xs:List Value} (h:∀ w',Holds w0 w' M' Φ→KW w')
  (h1:v.cells=#[v]:=by rfl) (hv1:v.oneCell'=true:=by rfl)
  (hu:Upd M (own B e k (.slice (some ⟨g,0,none⟩) n cap) n xs) (own B e k (.slice (some ⟨g,0,none⟩) n cap) n (xs.set off v)) M':=by (repeat (first|with_reducible exact Upd.here|with_reducible apply Upd.there))) (hoff:off<xs.length:=by omega):StoreAt P T ⟨g,off,none⟩ v w KW:=storeAt_own h1 hv1 hT hL B e k n cap xs hu hoff h
theorem own_shape {w0 w:World} {M:List Res} {Φ:List (World→Prop)} {B:Nat} {e:TypeId} {k n:Nat} {v:Value} {xs:List Value} (h:Holds w0 w M Φ) (hat:At M (own B e k v n xs)) (hn:0<n):∃ g cap,v=.slice (some ⟨g,0,none⟩) n cap:=by
 obtain ⟨g,cap,hv,_⟩:=World.ownsRow.form (h.at hat) hn
 exact ⟨g,cap,hv⟩
theorem own_slice {w0 w:World} {M:List Res} {Φ:List (World→Prop)} {B:Nat} {e:TypeId} {k n:Nat} {v:Value} {xs:List Value} (h:Holds w0 w M Φ) (hat:At M (own B e k v n xs)):∃ a cap,v=.slice a n cap:=by
 obtain ⟨_,h2|⟨g,cap,cur,hv,_⟩⟩:=h.at hat
 ·exact ⟨none,0,by rw [h2.1,h2.2]⟩
 ·exact ⟨_,cap,hv⟩
open Go.ChangeShapes Go.WideShapes Go.ChangeAt Go.RowKit
theorem Tryz.own:ownKnob Tryz.prog.godebug=none:=by kernel_rfl
theorem Tryz.laidOut:laidOutB Tryz.prog=true:=by kernel_rfl
theorem trodAll_below {H:Type} {enc:TypeId × Value→H} {P:Program} (hl:laidOutB P=true) {W W':World} (hb:Below W.heap.size W W') :
  ∀ {ts:List TypeId} {vs:List Value} {ds:List (DataW H)} {ps:List MemPlace},(∀ t∈ts,P.readableRec t=true∧t<P.types.size) →
   DataW.TrodAll enc P W 0 (fun _=>true) true ts vs ds ps→(∀ x∈ps,x.block<W.heap.size)→DataW.TrodAll enc P W' 0 (fun b=>decide (b<W.heap.size)) true ts vs ds ps
 | [],[],[],ps,_,h,_=>h
 | t::ts,v::vs,d::ds,ps,ht,h,hp=>by
  obtain ⟨p,q,h1,h2,rfl⟩:=h
  exact ⟨p,q,Below.trod hl (ht t (by simp)).1 (ht t (by simp)).2 h1 hb (fun x hx=>hp x (by simp [hx])),trodAll_below hl hb (fun u hu=>ht u (by simp [hu])) h2 (fun x hx=>hp x (by simp [hx])),rfl⟩
 | [],[],_::_,_,_,h,_=>h.elim
 | [],_::_,_,_,_,h,_=>h.elim
 | _::_,[],_,_,_,h,_=>h.elim
 | _::_,_::_,[],_,_,h,_=>h.elim
theorem law_post {H:Type} {enc:TypeId × Value→H} {P:Program} {fn:Func} {s:ChangeSpec} {apart handsOn:Bool} {W W':World} {args:Array Value} {ds gs:List (DataW H)} {before:List MemPlace} {T:TypeId}
  (hl:laidOutB P=true) (hW:DataW.Whole enc P fn.params.toList s.vars apart W args.toList ds gs before) (hb:Below W.heap.size W W') (hv:s.vars=[])
  (hres:fn.resultTypes=#[T]) (hT:P.underlying T=some .bool) (hspec:s.fn H (ds++gs)={ results:=[.lit (.bool true)],args:=ds }) (hpar:∀ t∈fn.params.toList,P.readableRec t=true∧t<P.types.size) :
  s.post enc P fn apart true handsOn false W args (.bool true) W':=by
 have hW':=hW
 obtain ⟨p,q,hA,hV,rfl,_,_⟩:=hW
 have hlt:∀ x∈p,x.block<W.heap.size:=fun x hx=>by simpa using hW'.lt x (by simp [hx])
 refine ⟨ds,gs,p++q,[],p,[],hW',?_,?_,?_,hb.frame _,fun h=>by cases h⟩
 ·rw [hspec,hres]
  exact trodAll_mk1 (shut_bool hT true)
 ·rw [hspec]
  exact trodAll_below hl hb hpar hA hlt
 ·rw [hspec,hv];rfl
theorem trod_int_cell {H:Type} {enc:TypeId × Value→H} {P:Program} {w:World} {base:Nat} {spare:Nat→Bool} {held:Bool} {n:Nat} {T:TypeId} {k:IntKind} {c:Value} {y:DataW H × List MemPlace} (hT:P.underlying T=some (.int k))
  (h:DataW.trod enc P w base spare held n T [c]=some y):∃ z:Int,c=.int k z:=by
 obtain ⟨a,e0,_⟩:=DataW.trod_int hT h
 exact ⟨a,by simpa using e0⟩
open Go.RowKit
section
variable {P : Program} {ops : Array Oper} {Q : Exit → Act → World → Prop} {md : Region.Mode} {S : World → Prop} {m : Nat}
def wpAnyM (P:Program) (md:Region.Mode) (ops:Array Oper) (Q:Exit→Act→World→Prop) (S:World→Prop) (m:Nat):Nat→Array Bool→Act→World→Prop
 | 0,l,a,w=>Region.ready md ops l=[]∧Q .normal a w
 | n+1,l,a,w=>(Region.ready md ops l=[]→Q .normal a w)∧∀ i∈Region.ready md ops l,wpOp P ops Q i (fun a' w'=>(i≠m→S w')∧wpAnyM P md ops Q S m n (l.setIfInBounds i true) a' w') a w
theorem wpAnyM.any {n:Nat} {l:Array Bool} {a:Act} {w:World} (h:wpAnyM P md ops Q S m n l a w):wpAny P md ops Q n l a w:=by
 induction n generalizing l a w with
 | zero=>exact h
 | succ n ih=>exact ⟨h.1,fun i hi=>wpOp_mono (fun _ _ k=>ih k.2) (h.2 i hi)⟩
def waits (md:Region.Mode) (ops:Array Oper) (m i:Nat):Bool:=((ops[m]?).map fun o=>o.after.any fun e=>Region.binds md e&&e.on == i).getD false
theorem waits_not {l:Array Bool} {i:Nat} (hw:waits md ops m i=true) (hi:i∈Region.ready md ops l):m ∉ Region.ready md ops l:=by
 intro hm
 obtain ⟨_,o,ho,hall⟩:=mem_ready.1 hm
 have h0:=(mem_ready.1 hi).1
 simp only [waits,ho,Option.map_some,Option.getD_some,Array.any_eq_true] at hw
 obtain ⟨k,hk,he⟩:=hw
 simp only [Bool.and_eq_true,beq_iff_eq] at he
 have h1:=hall o.after[k] (Array.getElem_mem hk) he.1
 rw [he.2] at h1
 rw [Array.getD_eq_getD_getElem?] at h0 h1
 cases hl:l[i]? with
 | none=>rw [hl] at h0;simp at h0
 | some b=>rw [hl] at h0 h1;simp at h0 h1;rw [h0] at h1;cases h1
theorem take_M {i:Nat} {oi:Oper} {v:Value} (hi:ops[i]?=some oi) (hs:Region.noSelect ops=true) (hQ:∀ c a w,Q (.panic c) (a.put oi.dst v) w→Q (.panic c) a w) (hw:waits md ops m i=true) {n:Nat} :
  ∀ {l:Array Bool} {a:Act} {w:World},(∀ j oj,ops[j]?=some oj→j≠i→l.getD j true=false→(∀ e∈oj.after,Region.binds md e=true→e.on≠i)→oi.apart ops oj=true) →
   i∈Region.ready md ops l→YieldsIf P ops S oi v a→S w→wpAnyM P md ops Q S m n (l.setIfInBounds i true) (a.put oi.dst v) w→wpAnyM P md ops Q S m (n+1) l a w:=by
 have himm:∀ {l:Array Bool},i∈Region.ready md ops l→i≠m:=fun hr e=>waits_not hw hr (e▸hr)
 induction n with
 | zero =>
  intro l a w _ hr hy hS H
  refine ⟨fun e=>absurd (e▸hr) (by simp),fun j hj=>?_⟩
  rcases Decidable.em (j=i) with rfl|hne
  ·exact hy.wpOp hi hS ⟨fun _=>hS,H⟩
  ·exact absurd (H.1▸ready_mono hj hne) (by simp)
 | succ n ih =>
  intro l a w hfree hr hy hS H
  refine ⟨fun e=>absurd (e▸hr) (by simp),fun j hj=>?_⟩
  rcases Decidable.em (j=i) with rfl|hne
  ·exact hy.wpOp hi hS ⟨fun _=>hS,H⟩
  have hjm:j≠m:=fun e=>waits_not hw hr (e▸hj)
  obtain ⟨hun,oj,hoj,hall⟩:=mem_ready.1 hj
  have hoff:∀ e∈oj.after,Region.binds md e=true→e.on≠i:=fun e he hb heq=>by
   have h1:=hall e he hb
   have h0:=(mem_ready.1 hr).1
   rw [heq,Array.getD_eq_getD_getElem?] at h1
   rw [Array.getD_eq_getD_getElem?] at h0
   cases hl:l[i]? with
   | none=>rw [hl] at h0;simp at h0
   | some b=>rw [hl] at h0 h1;simp at h0 h1;rw [h0] at h1;cases h1
  have step:=wpOp_putIf hoj (hfree j oj hoj hne hun hoff) (fun cs b=>Region.noSelect_spec hs i oi cs b hi) (fun cs b=>Region.noSelect_spec hs j oj cs b hoj) hQ hy (H.2 j (ready_mono hj hne))
  refine wpOp_mono (fun a' w' h3=>⟨fun _=>h3.2.1 hjm,ih (fun k ok hk hki hku hno=>?_) (ready_mono hr (Ne.symm hne)) h3.1 (h3.2.1 hjm) ?_⟩) step
  ·refine hfree k ok hk hki ?_ hno
   rcases Decidable.em (j=k) with rfl|hjk
   ·exact hun
   ·rwa [getD_set_ne true hjk] at hku
  ·rw [Array.setIfInBounds_comm _ _ hne]
   exact h3.2.2
theorem wpM_take {i:Nat} {oi:Oper} {v:Value} {n:Nat} {l:Array Bool} {a:Act} {w:World} (hi:ops[i]?=some oi) (hs:Region.noSelect ops=true) (hf:Region.free md ops l i=true) (hr:(Region.ready md ops l).contains i=true) (hw:waits md ops m i=true)
  (hQ:∀ c a w,Q (.panic c) (a.put oi.dst v) w→Q (.panic c) a w) (hS:S w) (hgd:Region.wanted oi (yielded ops a.tmps)=true) (hy:∀ w,S w→(execOp a.eval oi).run P w=.ok (.value v) w)
  (h:wpAnyM P md ops Q S m n (l.setIfInBounds i true) (a.put oi.dst v) w):wpAnyM P md ops Q S m (n+1) l a w :=
 take_M hi hs hQ hw (Region.free_spec hi hf) (by simpa using hr) (.inl ⟨hgd,hy⟩) hS h
theorem wpM_take1 {i:Nat} {oi:Oper} {n:Nat} {l:Array Bool} {a:Act} {w:World} (hi:ops[i]?=some oi)
  (h:∃ v,Region.noSelect ops=true∧Region.free md ops l i=true∧(Region.ready md ops l).contains i=true∧waits md ops m i=true∧(∀ c a w,Q (.panic c) (a.put oi.dst v) w→Q (.panic c) a w)∧S w∧Region.wanted oi (yielded ops a.tmps)=true∧(∀ w,S w→(execOp a.eval oi).run P w=.ok (.value v) w)∧wpAnyM P md ops Q S m n (l.setIfInBounds i true) (a.put oi.dst v) w):wpAnyM P md ops Q S m (n+1) l a w:=by
 obtain ⟨v,h1,h2,h3,h4,h5,h6,h7,h8,h9⟩:=h
 exact wpM_take hi h1 h2 h3 h4 h5 h6 h7 h8 h9
theorem wpM_one {i:Nat} {n:Nat} {l:Array Bool} {a:Act} {w:World} (hr:Region.ready md ops l=[i]) (h:wpOp P ops Q i (fun a' w'=>(i≠m→S w')∧wpAnyM P md ops Q S m n (l.setIfInBounds i true) a' w') a w):wpAnyM P md ops Q S m (n+1) l a w :=
 ⟨fun e=>(by rw [hr] at e;cases e),fun j hj=>(by rw [hr] at hj;simp at hj;subst hj;exact h)⟩
theorem wpM_done {n:Nat} {l:Array Bool} {a:Act} {w:World} (hr:Region.ready md ops l=[]) (h:Q .normal a w):wpAnyM P md ops Q S m n l a w:=by
 cases n with
 | zero=>exact ⟨hr,h⟩
 | succ n=>exact ⟨fun _=>h,fun i hi=>by rw [hr] at hi;cases hi⟩
theorem wpM_begin {id:Nat} {a:Act} {w:World} (hm:P.follows .mixedOrders=true) (S:World→Prop) (m:Nat) (h:wpAnyM P .any ops Q S m ops.size (Array.replicate ops.size false) a w.drew):(Code.region id ops true).wp P Q a w :=
 wp_region_any hm h.any
def wpStep (P:Program) (ops:Array Oper) (Q:Exit→Act→World→Prop) (o:Oper) (K:Act→World→Prop) (a:Act) (w:World):Prop:=if Region.wanted o (yielded ops a.tmps) then o.wp P a w K Q∨(o.asks P a w∧LetsOut Q) else K (a.put o.dst undef) w
theorem wpOp_of {i:Nat} {o:Oper} {K:Act→World→Prop} {a:Act} {w:World} (hi:ops[i]?=some o) (h:wpStep P ops Q o K a w):wpOp P ops Q i K a w:=by
 unfold wpOp
 simp only [hi]
 exact h
theorem st_run {o:Oper} {K:Act→World→Prop} {a:Act} {w:World} (hgd:Region.wanted o (yielded ops a.tmps)=true) (v:Value) (w':World) (hr:(execOp a.eval o).run P w=.ok (.value v) w') (h:K (a.put o.dst v) w'):wpStep P ops Q o K a w:=by
 unfold wpStep
 simp only [hgd,if_true]
 left
 unfold Oper.wp
 rw [hr]
 exact h
theorem st_runU {o:Oper} {K:Act→World→Prop} {a:Act} {w:World} (hgd:Region.wanted o (yielded ops a.tmps)=true) (w':World) (hr:(execOp a.eval o).run P w=.ok .skip w') (h:K (a.put o.dst undef) w'):wpStep P ops Q o K a w:=by
 unfold wpStep
 simp only [hgd,if_true]
 left
 unfold Oper.wp
 rw [hr]
 exact h
theorem st_call {o:Oper} {K:Act→World→Prop} {a:Act} {w:World} (hgd:Region.wanted o (yielded ops a.tmps)=true) (f:Nat) (args:Array Value) (hr:(execOp a.eval o).run P w=.ok (.enter f args) w) {R:Ending→World→Prop} (hc:Calls P f args w R)
  (h:∀ e w',R e w'→∃ v,e=.returned v∧K (a.put o.dst v) w'):wpStep P ops Q o K a w:=by
 unfold wpStep
 simp only [hgd,if_true]
 left
 unfold Oper.wp
 rw [hr]
 refine Calls.mono hc fun e w' he=>?_
 obtain ⟨v,rfl,hk⟩:=h e w' he
 exact hk
theorem st_append {o:Oper} {K:Act→World→Prop} {a:Act} {w:World} (hgd:Region.wanted o (yielded ops a.tmps)=true) (s x:Operand) (t:TypeId) (ho:o.op=.call { callee:=.builtin .append,args:=#[s,x],argTypes:=#[t,t] }) (v u:Value) (hs:a.eval s=v) (hx:a.eval x=u)
  (h:AppendAt P t o.type v u w fun v' w'=>K (a.put o.dst v') w'):wpStep P ops Q o K a w:=by
 obtain ⟨v',w',hr,h⟩:=h
 refine st_run hgd v' w' ?_ h
 unfold execOp
 simp [ho,hs,hx,resolve,invoke,builtin,hr]
theorem st_lit {o:Oper} {K:Act→World→Prop} {a:Act} {w:World} (hgd:Region.wanted o (yielded ops a.tmps)=true) (t:TypeId) (len:Nat) (parts:Array (Nat × Operand)) (ho:o.op=.buildSlice t len parts)
  (h:LitAt P t len (parts.map fun (i,x)=>(i,a.eval x)) w fun v' w'=>K (a.put o.dst v') w'):wpStep P ops Q o K a w:=by
 obtain ⟨v',w',hr,h⟩:=h
 refine st_run hgd v' w' ?_ h
 unfold execOp
 simp only [ho,Sem.run_bind,hr]
 rfl
theorem st_store {o:Oper} {K:Act→World→Prop} {a:Act} {w:World} (hgd:Region.wanted o (yielded ops a.tmps)=true) (T:TypeId) (x y:Operand) (ho:o.op=.store T x y) (p:Addr) (hx:a.eval x=.pointer (some p)) (v:Value) (hy:a.eval y=v)
  (h:StoreAt P T p v w fun w'=>K (a.put o.dst undef) w'):wpStep P ops Q o K a w:=by
 obtain ⟨w',hr,h⟩:=h
 refine st_runU hgd w' ?_ h
 unfold execOp
 simp [ho,hx,hy,Instr.storeAt,Instr.sureAddr,hr]
theorem run_loadOp {o:Oper} {a:Act} {w:World} (T:TypeId) (x:Operand) (ho:o.op=.load T x) (p:Addr) (hx:a.eval x=.pointer (some p)) (v:Value) (hr:LoadAt P T p w fun u=>u=v):(execOp a.eval o).run P w=.ok (.value v) w:=by
 obtain ⟨u,hr,rfl⟩:=hr
 unfold execOp
 simp [ho,hx,Instr.loadAt,Instr.sureAddr,hr]
theorem load_cell {T:TypeId} {p:Addr} {v:Value} {w:World} [hT:ScalarT P T] (hc:w.cell? p=some v):LoadAt P T p w fun u=>u=v:=loadAt_cell hT v hc rfl
theorem load_range {T:TypeId} {b n:Nat} {cs:Array Value} {w:World} [hT:RowT P T n] (hn:n=cs.size) (hc:w.rangeAt b 0 cs.toList):LoadAt P T ⟨b,0,none⟩ w fun u=>u=.agg cs:=loadAt_cells hT cs.toList hc (by simpa using hn) (by simp)
theorem wpH_one {i:Nat} {n:Nat} {l:Array Bool} {a:Act} {w:World} (hr:Region.ready md ops l=[i]) (h:wpOp P ops Q i (fun a' w'=>S w'∧wpAnyH P md ops Q S n (l.setIfInBounds i true) a' w') a w):wpAnyH P md ops Q S (n+1) l a w :=
 wpAnyH_all hr (by simp) fun j hj=>(by simp at hj;subst hj;exact h)
theorem wpH_begin {id:Nat} {a:Act} {w:World} (hm:P.follows .mixedOrders=true) (S:World→Prop) (h:wpAnyH P .any ops Q S ops.size (Array.replicate ops.size false) a w.drew):(Code.region id ops true).wp P Q a w :=
 wp_region_held hm h
end
open Go.RowKit
section
variable {P : Program} {ops : Array Oper} {Q : Exit → Act → World → Prop} {md : Region.Mode} {S : World → Prop} {m : Nat}
theorem stM {i:Nat} (v:Value) {oi:Oper} {n:Nat} {l:Array Bool} {a:Act} {w:World} (h6:S w) (hy:(∀ w,S w→(execOp a.eval oi).run P w=.ok (.value v) w)) (h9:wpAnyM P md ops Q S m n (l.setIfInBounds i true) (a.put oi.dst v) w)
  (hi:ops[i]?=some oi:=by (simp only [List.getElem?_toArray,List.getElem?_cons_zero,List.getElem?_cons_succ];rfl))
  (h1:Region.noSelect ops=true:=by kernel_rfl) (h2:Region.free md ops l i=true:=by kernel_rfl) (h3:(Region.ready md ops l).contains i=true:=by kernel_rfl) (h4:waits md ops m i=true:=by kernel_rfl)
  (h5:∀ c a w,Q (.panic c) (a.put oi.dst v) w→Q (.panic c) a w:=by exact fun _ _ _ h=>h) (h7:Region.wanted oi (yielded ops a.tmps)=true:=by rfl):wpAnyM P md ops Q S m (n+1) l a w :=
 wpM_take hi h1 h2 h3 h4 h5 h6 h7 hy h9
theorem dsM (i:Nat) (v:Value) {oi:Oper} {n:Nat} {l l':Array Bool} {a a':Act} {w:World} (h6:S w) (h9:wpAnyM P md ops Q S m n l' a' w) (hi:ops[i]?=some oi:=by (simp only [List.getElem?_toArray,List.getElem?_cons_zero,List.getElem?_cons_succ];rfl)) (hy:∀ w,S w→(execOp a.eval oi).run P w=.ok (.value v) w:=by exact fun w' _=>(by go_simp)) (hl:l.setIfInBounds i true=l':=by (first|(simp only [setP];rfl)|rfl)) (ha:a.put oi.dst v=a':=by (first|(simp only [Act.put,setP];rfl)|rfl)) (h1:Region.noSelect ops=true:=by kernel_rfl) (h2:Region.free md ops l i=true:=by kernel_rfl) (h3:(Region.ready md ops l).contains i=true:=by kernel_rfl) (h4:waits md ops m i=true:=by kernel_rfl) (h5:∀ c a w,Q (.panic c) (a.put oi.dst v) w→Q (.panic c) a w:=by exact fun _ _ _ h=>h) (h7:Region.wanted oi (yielded ops a.tmps)=true:=by rfl) :
  wpAnyM P md ops Q S m (n+1) l a w:=by
 subst hl;subst ha
 exact stM (i:=i) v h6 hy h9 hi h1 h2 h3 h4 h5 h7
theorem drM (i:Nat) (v:Value) {oi:Oper} {n:Nat} {l l':Array Bool} {a a':Act} {w:World} (h6:S w) {T:TypeId} {x:Operand} {p:Addr} (hr:∀ w,S w→LoadAt P T p w fun u=>u=v) (h9:wpAnyM P md ops Q S m n l' a' w) (hi:ops[i]?=some oi:=by (simp only [List.getElem?_toArray,List.getElem?_cons_zero,List.getElem?_cons_succ];rfl)) (ho:oi.op=.load T x:=by rfl) (hx:a.eval x=.pointer (some p):=by rfl) (hl:l.setIfInBounds i true=l':=by (first|(simp only [setP];rfl)|rfl)) (ha:a.put oi.dst v=a':=by (first|(simp only [Act.put,setP];rfl)|rfl)) (h1:Region.noSelect ops=true:=by kernel_rfl) (h2:Region.free md ops l i=true:=by kernel_rfl) (h3:(Region.ready md ops l).contains i=true:=by kernel_rfl) (h4:waits md ops m i=true:=by kernel_rfl) (h5:∀ c a w,Q (.panic c) (a.put oi.dst v) w→Q (.panic c) a w:=by exact fun _ _ _ h=>h) (h7:Region.wanted oi (yielded ops a.tmps)=true:=by rfl) :
  wpAnyM P md ops Q S m (n+1) l a w:=by
 have hy:=fun w' (hw:S w')=>run_loadOp T x ho p hx v (hr w' hw)
 subst hl;subst ha
 exact stM (i:=i) v h6 hy h9 hi h1 h2 h3 h4 h5 h7
theorem stH {i:Nat} (v:Value) {oi:Oper} {n:Nat} {l:Array Bool} {a:Act} {w:World} (h6:S w) (hy:(∀ w,S w→(execOp a.eval oi).run P w=.ok (.value v) w)) (h9:wpAnyH P md ops Q S n (l.setIfInBounds i true) (a.put oi.dst v) w)
  (hi:ops[i]?=some oi:=by (simp only [List.getElem?_toArray,List.getElem?_cons_zero,List.getElem?_cons_succ];rfl))
  (h1:Region.noSelect ops=true:=by kernel_rfl) (h2:Region.free md ops l i=true:=by kernel_rfl) (h3:(Region.ready md ops l).contains i=true:=by kernel_rfl)
  (h5:∀ c a w,Q (.panic c) (a.put oi.dst v) w→Q (.panic c) a w:=by exact fun _ _ _ h=>h) (h7:Region.wanted oi (yielded ops a.tmps)=true:=by rfl):wpAnyH P md ops Q S (n+1) l a w :=
 wpAnyH_take hi h1 h2 h3 h5 (.inl ⟨h7,hy⟩) h6 h9
theorem dsH (i:Nat) (v:Value) {oi:Oper} {n:Nat} {l l':Array Bool} {a a':Act} {w:World} (h6:S w) (h9:wpAnyH P md ops Q S n l' a' w) (hi:ops[i]?=some oi:=by (simp only [List.getElem?_toArray,List.getElem?_cons_zero,List.getElem?_cons_succ];rfl)) (hy:∀ w,S w→(execOp a.eval oi).run P w=.ok (.value v) w:=by exact fun w' _=>(by go_simp)) (hl:l.setIfInBounds i true=l':=by (first|(simp only [setP];rfl)|rfl)) (ha:a.put oi.dst v=a':=by (first|(simp only [Act.put,setP];rfl)|rfl)) (h1:Region.noSelect ops=true:=by kernel_rfl) (h2:Region.free md ops l i=true:=by kernel_rfl) (h3:(Region.ready md ops l).contains i=true:=by kernel_rfl) (h5:∀ c a w,Q (.panic c) (a.put oi.dst v) w→Q (.panic c) a w:=by exact fun _ _ _ h=>h) (h7:Region.wanted oi (yielded ops a.tmps)=true:=by rfl) :
  wpAnyH P md ops Q S (n+1) l a w:=by
 subst hl;subst ha
 exact stH (i:=i) v h6 hy h9 hi h1 h2 h3 h5 h7
theorem deH (i:Nat) {v:Value} {oi:Oper} {n:Nat} {l l':Array Bool} {a a':Act} {w:World} (h6:S w) (h9:wpAnyH P md ops Q S n l' a' w) (hi:ops[i]?=some oi:=by (simp only [List.getElem?_toArray,List.getElem?_cons_zero,List.getElem?_cons_succ];rfl)) (hy:∀ w,S w→(execOp a.eval oi).run P w=.ok (.value v) w:=by exact fun w' hw=>(by (go_simp;try with_reducible rfl))) (hl:l.setIfInBounds i true=l':=by (first|(simp only [setP];rfl)|rfl)) (ha:a.put oi.dst v=a':=by (first|(simp only [Act.put,setP];rfl)|rfl)) (h1:Region.noSelect ops=true:=by kernel_rfl) (h2:Region.free md ops l i=true:=by kernel_rfl) (h3:(Region.ready md ops l).contains i=true:=by kernel_rfl) (h5:∀ c a w,Q (.panic c) (a.put oi.dst v) w→Q (.panic c) a w:=by exact fun _ _ _ h=>h) (h7:Region.wanted oi (yielded ops a.tmps)=true:=by rfl) :
  wpAnyH P md ops Q S (n+1) l a w:=by
 subst hl;subst ha
 exact stH (i:=i) v h6 hy h9 hi h1 h2 h3 h5 h7
theorem drH (i:Nat) (v:Value) {oi:Oper} {n:Nat} {l l':Array Bool} {a a':Act} {w:World} (h6:S w) {T:TypeId} {x:Operand} {p:Addr} (hr:∀ w,S w→LoadAt P T p w fun u=>u=v) (h9:wpAnyH P md ops Q S n l' a' w) (hi:ops[i]?=some oi:=by (simp only [List.getElem?_toArray,List.getElem?_cons_zero,List.getElem?_cons_succ];rfl)) (ho:oi.op=.load T x:=by rfl) (hx:a.eval x=.pointer (some p):=by rfl) (hl:l.setIfInBounds i true=l':=by (first|(simp only [setP];rfl)|rfl)) (ha:a.put oi.dst v=a':=by (first|(simp only [Act.put,setP];rfl)|rfl)) (h1:Region.noSelect ops=true:=by kernel_rfl) (h2:Region.free md ops l i=true:=by kernel_rfl) (h3:(Region.ready md ops l).contains i=true:=by kernel_rfl) (h5:∀ c a w,Q (.panic c) (a.put oi.dst v) w→Q (.panic c) a w:=by exact fun _ _ _ h=>h) (h7:Region.wanted oi (yielded ops a.tmps)=true:=by rfl) :
  wpAnyH P md ops Q S (n+1) l a w:=by
 have hy:=fun w' (hw:S w')=>run_loadOp T x ho p hx v (hr w' hw)
 subst hl;subst ha
 exact stH (i:=i) v h6 hy h9 hi h1 h2 h3 h5 h7
theorem skH {i:Nat} {oi:Oper} {n:Nat} {l:Array Bool} {a:Act} {w:World} (h6:S w) (h9:wpAnyH P md ops Q S n (l.setIfInBounds i true) (a.put oi.dst undef) w)
  (hi:ops[i]?=some oi:=by (simp only [List.getElem?_toArray,List.getElem?_cons_zero,List.getElem?_cons_succ];rfl))
  (h1:Region.noSelect ops=true:=by kernel_rfl) (h2:Region.free md ops l i=true:=by kernel_rfl) (h3:(Region.ready md ops l).contains i=true:=by kernel_rfl)
  (h5:∀ c a w,Q (.panic c) (a.put oi.dst undef) w→Q (.panic c) a w:=by exact fun _ _ _ h=>h) (h7:Region.wanted oi (yielded ops a.tmps)=false:=by rfl):wpAnyH P md ops Q S (n+1) l a w :=
 wpAnyH_take hi h1 h2 h3 h5 (.inr ⟨h7,rfl⟩) h6 h9
theorem stO {i:Nat} (v:Value) {oi:Oper} {n:Nat} {l:Array Bool} {a:Act} {w:World} (h6:S w) (hy:∀ w,(execOp a.eval oi).run P w=.ok (.value v) w) (h9:wpAnyM P md ops Q S m n (l.setIfInBounds i true) (a.put oi.dst v) w)
  (hi:ops[i]?=some oi:=by (simp only [List.getElem?_toArray,List.getElem?_cons_zero,List.getElem?_cons_succ];rfl)) (hr:Region.ready md ops l=[i]:=by kernel_rfl) (h7:Region.wanted oi (yielded ops a.tmps)=true:=by rfl):wpAnyM P md ops Q S m (n+1) l a w :=
 wpM_one hr (wpOp_of hi (st_run h7 v w (hy w) ⟨fun _=>h6,h9⟩))
end
theorem tok2:True∧True:=⟨trivial,trivial⟩
theorem tok3:True∧True∧True:=⟨trivial,trivial,trivial⟩
theorem tok4:True∧True∧True∧True:=⟨trivial,trivial,trivial,trivial⟩
theorem tok5:True∧True∧True∧True∧True:=⟨trivial,trivial,trivial,trivial,trivial⟩
theorem tok6:True∧True∧True∧True∧True∧True:=⟨trivial,trivial,trivial,trivial,trivial,trivial⟩
theorem tok7:True∧True∧True∧True∧True∧True∧True:=⟨trivial,trivial,trivial,trivial,trivial,trivial,trivial⟩
theorem tok8:True∧True∧True∧True∧True∧True∧True∧True:=⟨trivial,trivial,trivial,trivial,trivial,trivial,trivial,trivial⟩
section
variable {P : Program} {w0 w : World} {ops : Array Oper} {rest : List Oper} {o : Oper} {a : Act} {Q : Exit → Act → World → Prop} {M : List Res} {Φ : List (World → Prop)}
def Out (G G':Prop):Prop:=G'→G
theorem goJ (_:Region.wanted o (yielded ops a.tmps)=true) (h:wpList P ops Q (o::rest) a w):wpList P ops Q (o::rest) a w:=h
theorem oAlloc {T:TypeId} {z:Value} {cs:Array Value} (hL:Holds w0 w M Φ) (ho:o.op=.alloc T:=by exact rfl) (hgd:Region.wanted o (yielded ops a.tmps)=true:=by exact rfl) (hz:ZeroT P T z cs:=by infer_instance):Out (wpList P ops Q (o::rest) a w) (∀ b w',Holds w0 w' (blk b cs T::M) Φ→wpList P ops Q rest (a.put o.dst (.pointer (some ⟨b,0,none⟩))) w'):=fun k=>wpC_alloc hgd T ho z cs hz hL k
theorem oBoxA {T:TypeId} {x:Operand} {cs:Array Value} (hL:Holds w0 w M Φ) (ho:o.op=.box T x:=by exact rfl) (hgd:Region.wanted o (yielded ops a.tmps)=true:=by exact rfl) (hx:a.eval x=.agg cs:=by exact rfl):Out (wpList P ops Q (o::rest) a w) (∀ b w',Holds w0 w' (blk b cs T::M) Φ→wpList P ops Q rest (a.put o.dst (.pointer (some ⟨b,0,none⟩))) w'):=fun k=>wpB_agg hgd T x cs ho hx hL k
theorem oBox {T:TypeId} {x:Operand} {v:Value} (hL:Holds w0 w M Φ) (ho:o.op=.box T x:=by exact rfl) (hgd:Region.wanted o (yielded ops a.tmps)=true:=by exact rfl) (hx:a.eval x=v:=by (first|exact Eq.refl (.int _ _:Value)|exact Eq.refl (.slice _ _ _:Value)|exact Eq.refl (.bool _:Value)|exact Eq.refl (.pointer _:Value)|exact Eq.refl (.func _ _ _:Value))) (hv:v.cells=#[v]:=by exact rfl):Out (wpList P ops Q (o::rest) a w) (∀ b w',Holds w0 w' (blk b #[v] T::M) Φ→wpList P ops Q rest (a.put o.dst (.pointer (some ⟨b,0,none⟩))) w'):=fun k=>wpB_one hgd T x v ho hx hv hL k
theorem oMax {x y:Operand} {t t':TypeId} {m n:Int} (ho:o.op=.call { callee:=.builtin .max,args:=#[x,y],argTypes:=#[t,t'] }:=by exact rfl) (hgd:Region.wanted o (yielded ops a.tmps)=true:=by exact rfl) (hx:a.eval x=.int .i64 m:=by exact rfl) (hy:a.eval y=.int .i64 n:=by exact rfl):Out (wpList P ops Q (o::rest) a w) (wpList P ops Q rest (a.put o.dst (.int .i64 (max m n))) w):=fun k=>wpH_max hgd x y t t' ho m n hx hy k
theorem oMin {x y:Operand} {t t':TypeId} {m n:Int} (ho:o.op=.call { callee:=.builtin .min,args:=#[x,y],argTypes:=#[t,t'] }:=by exact rfl) (hgd:Region.wanted o (yielded ops a.tmps)=true:=by exact rfl) (hx:a.eval x=.int .i64 m:=by exact rfl) (hy:a.eval y=.int .i64 n:=by exact rfl):Out (wpList P ops Q (o::rest) a w) (wpList P ops Q rest (a.put o.dst (.int .i64 (min m n))) w):=fun k=>wpH_min hgd x y t t' ho m n hx hy k
theorem oIndex {T:TypeId} {x y:Operand} {cs:Array Value} {i:Int} {v:Value} (ho:o.op=.index T x y:=by exact rfl) (hgd:Region.wanted o (yielded ops a.tmps)=true:=by exact rfl) (hx:a.eval x=.agg cs:=by exact rfl) (hy:a.eval y=.int .i64 i:=by exact rfl) (hv:IndexAt P T (.agg cs) i w (fun u=>u=v):=by first|exact cindexA rfl|exact indexC rfl):Out (wpList P ops Q (o::rest) a w) (wpList P ops Q rest (a.put o.dst v) w):=fun k=>wpA_index hgd T x y ho cs hx i hy (by obtain ⟨u,h1,h2⟩:=hv;subst h2;exact ⟨_,h1,k⟩)
theorem oStore {T:TypeId} {x y:Operand} {p:Addr} {v:Value} {M':List Res} (ho:o.op=.store T x y:=by exact rfl) (hgd:Region.wanted o (yielded ops a.tmps)=true:=by exact rfl) (hx:a.eval x=.pointer (some p):=by exact rfl) (hy:a.eval y=v:=by (first|exact Eq.refl (.int _ _:Value)|exact Eq.refl (.slice _ _ _:Value)|exact Eq.refl (.bool _:Value)|exact Eq.refl (.pointer _:Value)|exact Eq.refl (.func _ _ _:Value)|exact Eq.refl (Value.agg _))) (hs:StoreAt P T p v w (fun w'=>Holds w0 w' M' Φ):=by first|exact storeA hL (fun _ h=>h)|exact storeO hL (fun _ h=>h)|exact storeR hL (fun _ h=>h)):Out (wpList P ops Q (o::rest) a w) (∀ w',Holds w0 w' M' Φ→wpList P ops Q rest (a.put o.dst undef) w'):=fun k=>wpA_store hgd T x y ho p hx v hy (by obtain ⟨w',h1,h2⟩:=hs;exact ⟨w',h1,k w' h2⟩)
theorem oMake {l c:Operand} {t e n:Nat} {L:Int} {cs:Array Value} (ho:o.op=.makeSlice t l c:=by exact rfl) (hgd:Region.wanted o (yielded ops a.tmps)=true:=by exact rfl) (hl:a.eval l=.int .i64 L:=by exact rfl) (hc:a.eval c=.int .i64 L:=by exact rfl) (hs:MakeAt P t L w (fun v w'=>∃ b,v=.slice (some ⟨b,0,none⟩) n n∧Holds w0 w' (blk b cs e::M) Φ):=by first|exact makeA hL (fun b _ h=>⟨b,rfl,h⟩)|fail):Out (wpList P ops Q (o::rest) a w) (∀ b w',Holds w0 w' (blk b cs e::M) Φ→wpList P ops Q rest (a.put o.dst (.slice (some ⟨b,0,none⟩) n n)) w'):=fun k=>wpA_make hgd l c t ho L hl hc (by obtain ⟨v,w',h1,b,rfl,h2⟩:=hs;exact ⟨_,w',h1,k b w' h2⟩)
theorem oAppend {s x:Operand} {t n:Nat} {u v:Value} {F:Nat→Nat→List Res} (ho:o.op=.call { callee:=.builtin .append,args:=#[s,x],argTypes:=#[t,t] }:=by exact rfl) (hgd:Region.wanted o (yielded ops a.tmps)=true:=by exact rfl) (hx:a.eval x=u:=by exact Eq.refl (Value.slice _ _ _)) (hv:a.eval s=v:=by (first|(simp [go_sem];rfl)|rfl)) (hs:AppendAt P t o.type v u w (fun v' w'=>∃ g cap,v'=.slice (some ⟨g,0,none⟩) n cap∧Holds w0 w' (F g cap) Φ):=by first|exact appendA hL (fun g c _ h=>⟨g,c,rfl,h⟩)|fail):Out (wpList P ops Q (o::rest) a w) (∀ g cap w',Holds w0 w' (F g cap) Φ→wpList P ops Q rest (a.put o.dst (.slice (some ⟨g,0,none⟩) n cap)) w'):=fun k=>wpA_append hgd s x t ho u hx (fun q hq=>by subst hq;subst hv;obtain ⟨v',w',h1,g,c,rfl,h2⟩:=hs;exact ⟨_,w',h1,k g c w' h2⟩)
theorem oLoad {T:TypeId} {x:Operand} {p:Addr} {v:Value} (ho:o.op=.load T x:=by exact rfl) (hgd:Region.wanted o (yielded ops a.tmps)=true:=by exact rfl) (hx:a.eval x=.pointer (some p):=by exact rfl) (hv:LoadAt P T p w (fun u=>u=v):=by first|exact loadA hL rfl|exact loadR hL rfl|exact loadC hL rfl|exact loadD rfl|exact loadE hL rfl|exact loadF rfl):Out (wpList P ops Q (o::rest) a w) (wpList P ops Q rest (a.put o.dst v) w):=fun k=>wpA_load hgd T x ho p hx (by obtain ⟨u,h1,h2⟩:=hv;subst h2;exact ⟨_,h1,k⟩)
theorem goW {G':Prop} (k:G') (s:Out (wpList P ops Q (o::rest) a w) G':=by first|exact oLoad|exact oAlloc hL|exact oBoxA hL|exact oBox hL|exact oStore|exact oIndex|exact oMax|exact oMin|exact oAppend|exact oMake|fail):wpList P ops Q (o::rest) a w:=s k
end
theorem wpOf {P:Program} {ops:Array Oper} {Q:Exit→Act→World→Prop} {i:Nat} {o:Oper} {K:Act→World→Prop} {a:Act} {w:World} (h:wpStep P ops Q o K a w) (hi:ops[i]?=some o:=by (simp only [List.getElem?_toArray,List.getElem?_cons_zero,List.getElem?_cons_succ];rfl)):wpOp P ops Q i K a w:=wpOp_of hi h
theorem Holds.cellA {w0 w:World} {M:List Res} {Φ:List (World→Prop)} {b o:Nat} {cs:Array Value} {T:TypeId} (h:Holds w0 w M Φ) (k:At M (blk b cs T):=by (repeat (first|with_reducible exact At.here|with_reducible apply At.there))):w.cell? ⟨b,o,none⟩=cs[o]?:=h.cell k
theorem dlH {P:Program} {md:Region.Mode} {ops:Array Oper} {Q:Exit→Act→World→Prop} {S:World→Prop} (i:Nat) (v:Value) {oi:Oper} {n:Nat} {l:Array Bool} {a:Act} {w:World} {T:TypeId} {x:Operand} {p:Addr} (h6:S w) (hr:∀ w,S w→LoadAt P T p w fun u=>u=v) (h9:wpAnyH P md ops Q S n (l.setIfInBounds i true) (a.put oi.dst v) w) (hi:ops[i]?=some oi:=by (simp only [List.getElem?_toArray,List.getElem?_cons_zero,List.getElem?_cons_succ];rfl)) (ho:oi.op=.load T x:=by rfl) (hx:a.eval x=.pointer (some p):=by rfl) (h1:Region.noSelect ops=true:=by kernel_rfl) (h2:Region.free md ops l i=true:=by kernel_rfl) (h3:(Region.ready md ops l).contains i=true:=by kernel_rfl) (h5:∀ c a w,Q (.panic c) (a.put oi.dst v) w→Q (.panic c) a w:=by exact fun _ _ _ h=>h) (h7:Region.wanted oi (yielded ops a.tmps)=true:=by rfl):wpAnyH P md ops Q S (n+1) l a w:=stH (i:=i) v h6 (fun w' hw=>run_loadOp T x ho p hx v (hr w' hw)) h9 hi h1 h2 h3 h5 h7
end Go.Proofs.YtmnoeoecjfhhbaaGreat
