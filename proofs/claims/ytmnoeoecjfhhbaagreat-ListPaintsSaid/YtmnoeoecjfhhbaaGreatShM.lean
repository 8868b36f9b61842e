/- Plain laws: a path moved. -/
import Derived.Test.YtmnoeoecjfhhbaaGreatMkdM
import Derived.Test.YtmnoeoecjfhhbaaGreatTrnM
namespace Go.Proofs.YtmnoeoecjfhhbaaGreat
section
variable (Q : Edg → Prop) (R : Int → Int → Prop)
def CtAll (c:Ct):Prop:=R c.x c.y∧∀ e∈c.edges,Q e∧R e.x1 e.y1
theorem ctFold_all:∀ (l:List Sg) (done:List Ct) (cur:Option Ct) (x y:Int),(∀ s∈l,s.kind≠4→R s.x s.y)→(∀ s∈l,s.kind≠1→s.kind≠4→∀ x y,R x y→Q (segE x y s))→(∀ c∈done,CtAll Q R c)→(∀ c,cur=some c→CtAll Q R c∧R x y)→∀ c∈ctFold l done cur x y,CtAll Q R c
 | [],done,cur,x,y,_,_,hd,hc=>by
  intro c h
  rw [ctFold] at h
  rcases List.mem_append.1 h with h|h
  ·exact hd c h
  ·exact (hc c (by simpa using h)).1
 | s::l,done,cur,x,y,hp,hs,hd,hc=>by
  have hd2:∀ c∈done++cur.toList,CtAll Q R c:=by
   intro c h
   rcases List.mem_append.1 h with h|h
   ·exact hd c h
   ·exact (hc c (by simpa using h)).1
  have hp2:=fun t ht=>hp t (List.mem_cons_of_mem s ht)
  have hs2:=fun t ht=>hs t (List.mem_cons_of_mem s ht)
  intro c h
  unfold ctFold at h
  split at h
  ·rename_i h1
   have hr:=hp s List.mem_cons_self (by omega)
   exact ctFold_all l _ _ _ _ hp2 hs2 hd2 (by rintro c h;cases h;exact ⟨⟨hr,by simp⟩,hr⟩) c h
  ·rename_i h1
   cases cur with
   | none=>exact ctFold_all l _ none x y hp2 hs2 hd (by intro c h;cases h) c h
   | some a =>
    obtain ⟨ha,hr⟩:=hc a rfl
    simp only at h
    split at h
    ·exact ctFold_all l _ _ x y hp2 hs2 hd (by rintro c h;cases h;exact ⟨ha,hr⟩) c h
    ·rename_i h4
     have hr2:=hp s List.mem_cons_self h4
     refine ctFold_all l _ _ _ _ hp2 hs2 hd ?_ c h
     rintro c h;cases h
     refine ⟨⟨ha.1,fun e he=>?_⟩,hr2⟩
     rcases List.mem_append.1 he with he|he
     ·exact ha.2 e he
     ·rw [List.mem_singleton.1 he]
      exact ⟨hs s List.mem_cons_self h1 h4 x y hr,hr2⟩
end
def smallI (v:Int):Prop := -32≤v∧v≤287
def SmallS (s:Sg):Prop:=smallI s.x∧smallI s.y∧smallI s.cx∧smallI s.cy
structure Good (p:List Sg):Prop where
 small:∀ s∈p,SmallS s
 may:maySF 0 p=true
theorem sgn_neg (p:Int):sgn (-p) = -sgn p:=by unfold sgn;(repeat' split) <;> omega
theorem sgR_neg (p q d:Int):sgR (-p) (-q) d = -sgR p q d:=by
 unfold sgR
 rw [sgn_neg,sgn_neg,Int.neg_mul,Int.neg_mul_neg,Int.neg_mul_neg]
 generalize cmpI (p*p) (q*q*d)=c
 generalize sgn q*sgn d=u
 generalize sgn p=s
 by_cases h1:s=0∨s=u
 ·rw [if_pos h1,if_pos (by omega)]
 ·rw [if_neg h1,if_neg (by omega)]
  by_cases h2:u=0
  ·rw [if_pos h2,if_pos (by omega)]
  ·rw [if_neg h2,if_neg (by omega),Int.neg_mul]
open Go.RowKit
end Go.Proofs.YtmnoeoecjfhhbaaGreat
