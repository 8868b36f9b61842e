/- Plain laws: straight paths as pixels: triangles, parity. -/
import Derived.Test.YtneddfiohekhiaaShM
import Derived.Test.YtneddfiohekhiaaHas
namespace Go.Proofs.Ytneddfiohekhiaa

def lineE (a b c d : Int) : Edg := ⟨a, b, false, 0, 0, c, d⟩
theorem turnG_line_rev (a b c d x y : Int) : turnG (lineE c d a b) x y = -turnG (lineE a b c d) x y := turnG_rev (lineE a b c d) x y
theorem turnG_dot (a b x y : Int) : turnG (lineE a b a b) x y = 0 := by
  have := turnG_line_rev a b a b x y
  omega
def triS (u v a b c d : Int) : List Sg := [⟨1, u, v, 0, 0⟩, ⟨2, a, b, 0, 0⟩, ⟨2, c, d, 0, 0⟩, ⟨4, 0, 0, 0, 0⟩]
theorem near_of {v : Int} (h : -8000 ≤ v ∧ v ≤ 8000) : near1 v = true := by unfold near1; simp; omega
theorem triS_may {u v a b c d : Int} (hu : -8000 ≤ u ∧ u ≤ 8000) (hv : -8000 ≤ v ∧ v ≤ 8000) (ha : -8000 ≤ a ∧ a ≤ 8000) (hb : -8000 ≤ b ∧ b ≤ 8000) (hc : -8000 ≤ c ∧ c ≤ 8000) (hd : -8000 ≤ d ∧ d ≤ 8000) : pathMay (triS u v a b c d) = true := by
  have hz : near1 0 = true := by decide
  simp [pathMay, triS, maySF, rightS, near_of hu, near_of hv, near_of ha, near_of hb, near_of hc, near_of hd, hz]
theorem triS_edges {u v a b c d : Int} (hm : pathMay (triS u v a b c d) = true) : edgesS (triS u v a b c d) = if c = u ∧ d = v then [lineE u v a b, lineE a b c d] else [lineE u v a b, lineE a b c d, lineE c d u v] := by
  have hc : contoursS (triS u v a b c d) = [⟨u, v, [lineE u v a b, lineE a b c d], true⟩] := by
    unfold contoursS
    rw [hm]
    simp [triS, ctFold, segE, lineE]
  unfold edgesS
  rw [hc]
  simp only [List.flatMap_cons, List.flatMap_nil, List.append_nil]
  have he : endE ⟨u, v, [lineE u v a b, lineE a b c d], true⟩ = lineE a b c d := rfl
  by_cases h : c = u ∧ d = v
  · rw [if_pos h, edgesC_shut (by simp) (by rw [he]; exact h)]
  · rw [if_neg h, edgesC_open (by simp) (by rw [he]; exact h), he]
    rfl
theorem windG_cons (e : Edg) (l : List Edg) (x y : Int) : windG (e :: l) x y = turnG e x y + windG l x y := by simp [windG]
theorem windG_nil (x y : Int) : windG [] x y = 0 := rfl
theorem triS_wind {u v a b c d : Int} (hm : pathMay (triS u v a b c d) = true) (x y : Int) : windG (edgesS (triS u v a b c d)) x y = turnG (lineE a b c d) x y + (turnG (lineE u v a b) x y - turnG (lineE u v c d) x y) := by
  rw [triS_edges hm]
  have hr := turnG_line_rev u v c d x y
  split
  · rename_i h
    rw [h.1, h.2, windG_cons, windG_cons, windG_nil, turnG_dot]; omega
  · rw [windG_cons, windG_cons, windG_cons, windG_nil, hr]; omega
/-- straight edges, nothing said between -/
def Line0 (e : Edg) : Prop := e = lineE e.x0 e.y0 e.x1 e.y1
theorem edges_line {l : List Sg} (h : ∀ s ∈ l, s.kind ≠ 3 ∧ s.cx = 0 ∧ s.cy = 0) : ∀ e ∈ edgesS l, Line0 e :=
  edges_all Line0 (fun _ _ => True) l (fun _ _ _ _ _ _ => rfl) (fun _ _ _ => trivial) fun s hs _ _ x y _ => by
    obtain ⟨h1, h2, h3⟩ := h s hs
    unfold Line0 segE lineE
    simp [h1, h2, h3]
theorem loop_line (n : List Int) : ∀ e ∈ edgesS (loopS n), Line0 e := by
  refine edges_line ?_
  have key : ∀ f p m, (∀ s ∈ p, Sg.kind s ≠ 3 ∧ Sg.cx s = 0 ∧ Sg.cy s = 0) → ∀ s ∈ loopF f p m, s.kind ≠ 3 ∧ s.cx = 0 ∧ s.cy = 0 := by
    intro f
    induction f with
    | zero => intro p m h s hs; exact h s hs
    | succ f ih =>
      intro p m h s hs
      rw [loopF] at hs
      split at hs
      · exact h s hs
      · refine ih _ _ ?_ s hs
        intro t ht
        rcases List.mem_append.1 ht with ht | ht
        · exact h t ht
        · rw [List.mem_singleton.1 ht]; simp
  intro s hs
  unfold loopS at hs
  rcases List.mem_append.1 hs with hs | hs
  · exact key _ _ _ (by intro t ht; rw [List.mem_singleton.1 ht]; simp) s hs
  · rw [List.mem_singleton.1 hs]; simp
theorem sum_addG (f g : Edg → Int) : ∀ l : List Edg, (l.map fun e => f e + g e).sum = (l.map f).sum + (l.map g).sum
  | [] => rfl
  | e :: l => by simp only [List.map_cons, List.sum_cons, sum_addG f g l]; omega
theorem sum_stepG (f : Edg → Int) {l : List Edg} {k : Nat} (h : k < l.length) : ((l.take (k + 1)).map f).sum = ((l.take k).map f).sum + f (l.getD k default) := by
  rw [List.take_succ_eq_append_getElem h, List.map_append, List.sum_append]
  simp [h]
def fanG (u v x y : Int) (e : Edg) : Int := turnG (lineE e.x0 e.y0 e.x1 e.y1) x y + (turnG (lineE u v e.x0 e.y0) x y - turnG (lineE u v e.x1 e.y1) x y)
theorem fanG_law (u v x y : Int) {l : List Sg} (h : ∀ e ∈ edgesS l, Line0 e) : ((edgesS l).map (fanG u v x y)).sum = windG (edgesS l) x y := by
  have hc := edges_closed (fun a b => turnG (lineE u v a b) x y) l
  have e : (edgesS l).map (fanG u v x y) = (edgesS l).map fun e => turnG e x y + (turnG (lineE u v e.x0 e.y0) x y - turnG (lineE u v e.x1 e.y1) x y) := by
    refine List.map_congr_left fun e he => ?_
    unfold fanG
    rw [← h e he]
  rw [e, sum_addG, hc]
  unfold windG
  omega
theorem odd_add (a b : Int) : isIn 1 (a + b) = (isIn 1 a != isIn 1 b) := by
  have h1 : ∀ n : Int, isIn 1 n = decide (n % 2 ≠ 0) := fun n => rfl
  rw [h1, h1, h1]
  rcases Int.emod_two_eq a with ha | ha <;> rcases Int.emod_two_eq b with hb | hb
  · rw [decide_eq_false (show ¬ a % 2 ≠ 0 by omega), decide_eq_false (show ¬ b % 2 ≠ 0 by omega), decide_eq_false (by omega)]; rfl
  · rw [decide_eq_false (show ¬ a % 2 ≠ 0 by omega), decide_eq_true (show b % 2 ≠ 0 by omega), decide_eq_true (by omega)]; rfl
  · rw [decide_eq_true (show a % 2 ≠ 0 by omega), decide_eq_false (show ¬ b % 2 ≠ 0 by omega), decide_eq_true (by omega)]; rfl
  · rw [decide_eq_true (show a % 2 ≠ 0 by omega), decide_eq_true (show b % 2 ≠ 0 by omega), decide_eq_false (by omega)]; rfl
theorem nil_may : pathMay [] = true := by decide
theorem nil_edges : edgesS [] = [] := by decide
theorem nilSegs_at (w : World) : SegsAt w (.slice none 0 0) [] := ⟨none, 0, rfl, Nat.le_refl _, by unfold maxLen; omega, fun i hi => by simp at hi⟩
end Go.Proofs.Ytneddfiohekhiaa
