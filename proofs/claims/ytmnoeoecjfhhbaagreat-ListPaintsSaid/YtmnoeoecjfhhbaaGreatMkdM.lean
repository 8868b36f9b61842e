/- An upright box as pieces. -/
import Derived.Test.YtmnoeoecjfhhbaaGreatCtrM
namespace Go.Proofs.YtmnoeoecjfhhbaaGreat
open Go.RowKit
theorem segC_len (l:List Sg):∀ c∈l.map segC,c.length=5:=by
 intro c hc
 obtain ⟨e,_,rfl⟩:=List.mem_map.1 hc
 rfl
open Go.RowKit
theorem Holds.litOwn {w0 w:World} {M M':List Res} {Φ:List (World→Prop)} {b k n:Nat} {cs:Array Value} {e:TypeId} (h:Holds w0 w M Φ)
  (hu:Upd M (blk b cs e) (own w0.heap.size e k (.slice (some ⟨b,0,none⟩) n n) n cs.toList) M') (hs:cs.size=n*k) (hn:n≤maxLen):Holds w0 w M' Φ:=by
 have hb:=h.at hu.at
 have hlow:=h.low _ hu.at b rfl
 refine h.upd hu ⟨rfl,rfl,rfl,Nat.le_refl _,fun _ _ _=>rfl⟩ ⟨by simpa using hs,.inr ⟨b,n,cs,rfl,hlow,hb,Nat.le_refl _,hn,hs,?_⟩⟩ (fun b' hb'=>.inl hb')
 rw [List.take_of_length_le (by simp [hs])]
open Go.RowKit
theorem Holds.fact2 {w0 w:World} {M:List Res} {Φ:List (World→Prop)} {a b φ:World→Prop} (h:Holds w0 w M (a::b::φ::Φ)):φ w:=h.fact (.tail _ (.tail _ (.head _)))
theorem Holds.fact3 {w0 w:World} {M:List Res} {Φ:List (World→Prop)} {a b c φ:World→Prop} (h:Holds w0 w M (a::b::c::φ::Φ)):φ w:=h.fact (.tail _ (.tail _ (.tail _ (.head _))))
theorem SliceAt.part {w:World} {size n c:Nat} {a:Option Addr} {els:List (List Value)} (h:SliceAt w size (.slice a n c) els) {l m:Nat} (h1:l≤m) (h2:m≤n):SliceAt w size (sliced a l m c size) ((els.take m).drop l):=by
 obtain ⟨a',c',he,hlc,hcm,hel⟩:=h
 injection he with e1 e2 e3
 subst e1;subst e2;subst e3
 have hlen:((els.take m).drop l).length=m-l:=by simp;omega
 refine ⟨if c=l then a else a.map (·.add (l*size)),c-l,by unfold sliced;rw [hlen],by omega,by omega,fun i hi=>?_⟩
 rw [hlen] at hi
 obtain ⟨b,o,e,hr⟩:=hel (l+i) (by omega)
 subst e
 rw [if_neg (by omega)]
 refine ⟨b,o+l*size,by simp [Addr.add],?_⟩
 rw [List.getElem_drop,List.getElem_take]
 rwa [Nat.add_mul,←Nat.add_assoc] at hr
section
variable {P : Program} {w0 w : World} {M M' : List Res} {Φ : List (World → Prop)} {K2 : Value → World → Prop}
theorem litA0 {t e size bytes:Nat} {z:Value} {vp:Array (Nat × Value)} [ht:SliceT P t e] [hi:ElemT P e size bytes z]
  (hL:Holds w0 w M Φ) (h:∀ b w',Holds w0 w' (own w0.heap.size e size (.slice (some ⟨b,0,none⟩) 0 0) 0 []::M) Φ→K2 (.slice (some ⟨b,0,none⟩) 0 0) w') (hvs:vp=#[]:=by simp only [List.map_toArray,List.map_nil]):LitAt P t 0 vp w K2 :=
 litAt ht hi [] hvs rfl rfl (by simp) #[] rfl hL fun b w' h'=>h b w' (h'.litOwn .here (by simp) (by decide))
end
open Go.RowKit
theorem Holds.range {w0 w:World} {M:List Res} {Φ:List (World→Prop)} {b:Nat} {cs:Array Value} {T:TypeId} (hL:Holds w0 w M Φ) (hat:At M (blk b cs T)):w.rangeAt b 0 cs.toList:=fun j v hv=>by
 rw [Nat.zero_add,hL.cell hat];simpa using hv
theorem Holds.segsLit {w0 w:World} {M:List Res} {Φ:List (World→Prop)} {b:Nat} {cs:Array Value} {T:TypeId} (l:List Sg) (hL:Holds w0 w M Φ) (k:At M (blk b cs T)) (hcs:cs.toList=(l.map segC).flatten) (hm:l.length≤maxLen):SegsAt w (.slice (some ⟨b,0,none⟩) l.length l.length) l:=by
 refine ⟨_,l.length,by simp,by simp,hm,fun i hi=>⟨b,0,rfl,fun j v hj=>?_⟩⟩
 rw [hL.cell k,←Array.getElem?_toList,hcs,Nat.zero_add]
 exact flatten_get (segC_len l) i hi j v hj
end Go.Proofs.YtmnoeoecjfhhbaaGreat
