/- Package path: Back: the walk. -/
import Derived.Test.YtjgnbmgdnfldeaaMkdM
-- lit6
namespace Go.Proofs.Ytjgnbmgdnfldeaa
open Go.RowKit

def backSg (e : Edg) : Sg := ⟨if e.bent then 3 else 2, e.x0, e.y0, if e.bent then e.cx else 0, if e.bent then e.cy else 0⟩
def backM (c : Ct) : Sg := if c.edges.length = 0 then ⟨1, c.x, c.y, 0, 0⟩ else ⟨1, (endE c).x1, (endE c).y1, 0, 0⟩
def backC (c : Ct) : List Sg := backM c :: (c.edges.reverse.map backSg ++ if c.shut then [⟨4, 0, 0, 0, 0⟩] else [])
def backS (l : List Sg) : List Sg := (contoursS l).flatMap backC
theorem backC_len (c : Ct) : (backC c).length ≤ c.edges.length + 2 := by
  unfold backC; split <;> simp
theorem back_weight : ∀ l : List Ct, (l.flatMap backC).length ≤ 2 * (l.map ctW).sum
  | [] => by simp
  | c :: l => by
    have h1 := backC_len c
    have h2 := back_weight l
    simp only [List.flatMap_cons, List.length_append, List.map_cons, List.sum_cons]
    unfold ctW at *; omega
theorem take_back (l : List Ct) (k : Nat) (h : k < l.length) : (l.take (k + 1)).flatMap backC = (l.take k).flatMap backC ++ backC (l.getD k default) := by
  rw [List.take_succ_eq_append_getElem h, List.flatMap_append]
  simp [h]
theorem take_bweight (l : List Ct) (k : Nat) (h : k < l.length) : ((l.take k).flatMap backC).length + 2 * ctW (l.getD k default) ≤ 2 * (l.map ctW).sum := by
  have h1 := back_weight (l.take k)
  have h2 : (l.map ctW).sum = ((l.take k).map ctW).sum + ((l.drop k).map ctW).sum := by
    rw [← List.sum_append, ← List.map_append, List.take_append_drop]
  have h3 : l.drop k = l.getD k default :: l.drop (k + 1) := by rw [List.drop_eq_getElem_cons h]; simp [h]
  rw [h3, List.map_cons, List.sum_cons] at h2
  omega
theorem drop_rev (es : List Edg) (q : Nat) (h : q < es.length) : (es.drop q).reverse.map backSg = (es.drop (q + 1)).reverse.map backSg ++ [backSg (es.getD q default)] := by
  rw [List.drop_eq_getElem_cons h, List.reverse_cons, List.map_append]
  simp [h]
theorem segs_snoc (p : List Sg) (s : Sg) : ((p ++ [s]).map segC).flatten = (p.map segC).flatten ++ segC s := by simp
theorem segs_snoc_len (p : List Sg) (s : Sg) : (p ++ [s]).length = p.length + 1 := by simp

end Go.Proofs.Ytjgnbmgdnfldeaa
