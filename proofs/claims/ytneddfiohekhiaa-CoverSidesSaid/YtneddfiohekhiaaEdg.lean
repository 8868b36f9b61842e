/- Package path: Edges, plain. -/
import Derived.Test.YtneddfiohekhiaaCtr
namespace Go.Proofs.Ytneddfiohekhiaa
open Go.RowKit

def endE (c : Ct) : Edg := c.edges.getD (c.edges.length - 1) default
def edgesC (c : Ct) : List Edg := if c.edges.length = 0 then [] else if (endE c).x1 = c.x ∧ (endE c).y1 = c.y then c.edges else c.edges ++ [⟨(endE c).x1, (endE c).y1, false, 0, 0, c.x, c.y⟩]
def edgesS (l : List Sg) : List Edg := (contoursS l).flatMap edgesC
def ctW (c : Ct) : Nat := c.edges.length + 1
theorem ctFold_weight : ∀ (l : List Sg) (done : List Ct) (cur : Option Ct) (x y : Int), ((ctFold l done cur x y).map ctW).sum ≤ (done.map ctW).sum + (cur.toList.map ctW).sum + l.length
  | [], done, cur, _, _ => by simp [ctFold]
  | s :: l, done, cur, x, y => by
    unfold ctFold
    split
    · refine Nat.le_trans (ctFold_weight l _ _ _ _) ?_
      simp [ctW]; omega
    · cases cur with
      | none => refine Nat.le_trans (ctFold_weight l _ _ _ _) ?_; simp
      | some c =>
        simp only
        split
        · refine Nat.le_trans (ctFold_weight l _ _ _ _) ?_; simp [ctW]
        · refine Nat.le_trans (ctFold_weight l _ _ _ _) ?_; simp [ctW]; omega
theorem edgesC_weight (c : Ct) : (edgesC c).length ≤ ctW c := by
  unfold edgesC ctW
  split
  · simp
  · split <;> simp
theorem flat_weight : ∀ l : List Ct, (l.flatMap edgesC).length ≤ (l.map ctW).sum
  | [] => by simp
  | c :: l => by
    have h1 := edgesC_weight c
    have h2 := flat_weight l
    simp only [List.flatMap_cons, List.length_append, List.map_cons, List.sum_cons]
    omega
theorem contours_weight (l : List Sg) : ((contoursS l).map ctW).sum ≤ 300 := by
  unfold contoursS
  split
  · rename_i h
    have h2 : l.length ≤ 300 := by
      have : l.length ≤ 300 ∧ maySF 0 l = true := by simpa [pathMay] using h
      exact this.1
    refine Nat.le_trans (ctFold_weight l [] none 0 0) ?_
    simpa using h2
  · simp
theorem contours_len (l : List Sg) : (contoursS l).length ≤ 300 := by
  refine Nat.le_trans ?_ (contours_weight l)
  have : ∀ m : List Ct, m.length ≤ (m.map ctW).sum := by
    intro m
    induction m with
    | nil => simp
    | cons c m ih => simp only [List.map_cons, List.sum_cons, List.length_cons]; unfold ctW at ih ⊢; omega
  exact this _
theorem take_flat (l : List Ct) (k : Nat) (h : k < l.length) : (l.take (k + 1)).flatMap edgesC = (l.take k).flatMap edgesC ++ edgesC (l.getD k default) := by
  rw [List.take_succ_eq_append_getElem h, List.flatMap_append]
  simp [h]
theorem take_weight (l : List Ct) (k : Nat) (h : k < l.length) : ((l.take k).flatMap edgesC).length + ctW (l.getD k default) ≤ (l.map ctW).sum := by
  have h1 := flat_weight (l.take k)
  have h2 : (l.map ctW).sum = ((l.take k).map ctW).sum + ((l.drop k).map ctW).sum := by
    rw [← List.sum_append, ← List.map_append, List.take_append_drop]
  have h3 : l.drop k = l.getD k default :: l.drop (k + 1) := by rw [List.drop_eq_getElem_cons h]; simp [h]
  rw [h3, List.map_cons, List.sum_cons] at h2
  omega
theorem edgesS_len (l : List Sg) : (edgesS l).length ≤ 300 := Nat.le_trans (flat_weight _) (contours_weight l)
theorem zip_get (vs : List Value) (l : List Ct) (h : vs.length = l.length) (k : Nat) (hk : k < l.length) : ∃ u, vs[k]? = some u ∧ ∀ h2 : k < (List.zipWith ctC vs l).length, (List.zipWith ctC vs l)[k] = ctC u (l.getD k default) := by
  refine ⟨vs[k]'(by omega), by simp, fun h2 => ?_⟩
  simp [hk]
theorem edgesC_nil {c : Ct} (h : c.edges.length = 0) : edgesC c = [] := by unfold edgesC; rw [if_pos h]
theorem edgesC_shut {c : Ct} (h : ¬ c.edges.length = 0) (h2 : (endE c).x1 = c.x ∧ (endE c).y1 = c.y) : edgesC c = c.edges := by unfold edgesC; rw [if_neg h, if_pos h2]
theorem edgesC_open {c : Ct} (h : ¬ c.edges.length = 0) (h2 : ¬ ((endE c).x1 = c.x ∧ (endE c).y1 = c.y)) : edgesC c = c.edges ++ [⟨(endE c).x1, (endE c).y1, false, 0, 0, c.x, c.y⟩] := by unfold edgesC; rw [if_neg h, if_neg h2]
end Go.Proofs.Ytneddfiohekhiaa
