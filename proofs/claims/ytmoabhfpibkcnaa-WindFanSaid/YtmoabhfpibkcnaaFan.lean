/- Plain laws: a fan of triangles. -/
import Derived.Test.YtmoabhfpibkcnaaEdgL
import Derived.Test.YtmoabhfpibkcnaaWindP
namespace Go.Proofs.Ytmoabhfpibkcnaa

theorem stepUp_back (a b v p : Int) : stepUp b a v (-p) = -stepUp a b v p := by
  unfold stepUp; (repeat' split) <;> omega
theorem turnS_back (a b c d u v : Int) : turnS ⟨c, d, false, 0, 0, a, b⟩ u v = -turnS ⟨a, b, false, 0, 0, c, d⟩ u v := by
  rw [turnS_area, turnS_area, ← stepUp_back]
  congr 1
  unfold areaI; grind
theorem mayE_back (a b c d : Int) : mayE ⟨c, d, false, 0, 0, a, b⟩ = mayE ⟨a, b, false, 0, 0, c, d⟩ := by
  unfold mayE
  dsimp only
  generalize near1 a = p; generalize near1 b = q; generalize near1 c = r; generalize near1 d = s
  cases p <;> cases q <;> cases r <;> cases s <;> rfl
theorem turnE_back (a b c d u v : Int) : turnE ⟨c, d, false, 0, 0, a, b⟩ u v = -turnE ⟨a, b, false, 0, 0, c, d⟩ u v := by
  unfold turnE
  rw [mayE_back, turnS_back]
  split <;> rfl
theorem turnE_one (e : Edg) (u v : Int) : -1 ≤ turnE e u v ∧ turnE e u v ≤ 1 := by
  unfold turnE turnS
  (repeat' split) <;> omega
/-- an edge and a point -/
def fanL (c d : Int) (e : Edg) : List Edg := [e, ⟨e.x1, e.y1, false, 0, 0, c, d⟩, ⟨c, d, false, 0, 0, e.x0, e.y0⟩]
def fanK (c d u v : Int) (e : Edg) : Int := windS (fanL c d e) u v
theorem fanK_eq (c d u v : Int) (e : Edg) : fanK c d u v e = turnE e u v + (turnE ⟨c, d, false, 0, 0, e.x0, e.y0⟩ u v - turnE ⟨c, d, false, 0, 0, e.x1, e.y1⟩ u v) := by
  unfold fanK fanL windS
  simp only [List.map_cons, List.map_nil, List.sum_cons, List.sum_nil]
  rw [turnE_back c d e.x1 e.y1 u v]
  omega
theorem fanK_bd (c d u v : Int) (e : Edg) : -3 ≤ fanK c d u v e ∧ fanK c d u v e ≤ 3 := by
  rw [fanK_eq]
  have h1 := turnE_one e u v
  have h2 := turnE_one ⟨c, d, false, 0, 0, e.x0, e.y0⟩ u v
  have h3 := turnE_one ⟨c, d, false, 0, 0, e.x1, e.y1⟩ u v
  omega
theorem sum_add (f g : Edg → Int) : ∀ l : List Edg, (l.map fun e => f e + g e).sum = (l.map f).sum + (l.map g).sum
  | [] => rfl
  | e :: l => by simp only [List.map_cons, List.sum_cons, sum_add f g l]; omega
theorem sum_step (f : Edg → Int) {l : List Edg} {k : Nat} (h : k < l.length) : ((l.take (k + 1)).map f).sum = ((l.take k).map f).sum + f (l.getD k default) := by
  rw [List.take_succ_eq_append_getElem h, List.map_append, List.sum_append]
  simp [h]
/-- the fan of a path: its triangles wind as it does -/
theorem fan_law (c d u v : Int) (l : List Sg) : ((edgesS l).map (fanK c d u v)).sum = windS (edgesS l) u v := by
  have h := edges_closed (fun x y => turnE ⟨c, d, false, 0, 0, x, y⟩ u v) l
  have e : (edgesS l).map (fanK c d u v) = (edgesS l).map fun e => turnE e u v + (turnE ⟨c, d, false, 0, 0, e.x0, e.y0⟩ u v - turnE ⟨c, d, false, 0, 0, e.x1, e.y1⟩ u v) :=
    List.map_congr_left fun e _ => fanK_eq c d u v e
  rw [e, sum_add, h]
  unfold windS
  omega
theorem fanL_straight (c d : Int) {e : Edg} (h : e.bent = false) : ∀ f ∈ fanL c d e, f.bent = false := by
  intro f hf
  simp only [fanL, List.mem_cons, List.not_mem_nil, or_false] at hf
  rcases hf with rfl | rfl | rfl
  · exact h
  · rfl
  · rfl
end Go.Proofs.Ytmoabhfpibkcnaa
