/- Lists of marks, plain: moved marks, clips in any order. -/
import Derived.Test.YtmnoeoecjfhhbaaGreatIkZ
import Derived.Test.YtmnoeoecjfhhbaaGreatShM
import Derived.Test.YtmnoeoecjfhhbaaGreatHulM
import Derived.Test.YtmnoeoecjfhhbaaGreatHmV5
namespace Go.Proofs.YtmnoeoecjfhhbaaGreat
open Go.RowKit

theorem fillP_move {l : List Sg} {u v : Int} (hm : pathMay l = true) (h : ∀ s ∈ l, nearS s = true ∧ nearS (moveS (16 * u) (16 * v) s) = true) (rule : Int) {j x j' x' : Nat} (hj : (j' : Int) = j + v) (hx : (x' : Int) = x + u) (b1 : j < 64) (b2 : x < 64) (b3 : j' < 64) (b4 : x' < 64) : fillP (l.map (moveS (16 * u) (16 * v))) rule j' x' = fillP l rule j x := by
  have hm2 : pathMay (l.map (moveS (16 * u) (16 * v))) = true := by
    rw [← hm]; unfold pathMay; rw [List.length_map, maySF_move l 0 h]
  have h1 := edges_may hm
  have h2 := edges_may hm2
  have n : ∀ t : Int, -2000 ≤ t ∧ t ≤ 2000 → near1 t = true := fun t ht => by unfold near1; simp; omega
  unfold fillP
  refine congrArg (isIn rule) ?_
  rw [edges_move h] at h2 ⊢
  rw [show 16 * (x' : Int) + 8 = 16 * (x : Int) + 8 + 16 * u by omega, show 16 * (j' : Int) + 8 = 16 * (j : Int) + 8 + 16 * v by omega]
  unfold windG
  rw [List.map_map]
  congr 1
  apply List.map_congr_left
  intro e he
  have e1 : mayE (movE (16 * u) (16 * v) e) = mayE e := by rw [h1 e he]; exact h2 _ (List.mem_map_of_mem he)
  exact turnG_mov e _ _ _ _ e1 (by rw [n _ (by omega), n _ (by omega)]) (by rw [n _ (by omega), n _ (by omega)])
theorem hemP_move {l : List Sg} {u v : Int} (h : ∀ s ∈ l, nearS s = true ∧ nearS (moveS (16 * u) (16 * v) s) = true) (s : Sty) {j x j' x' : Nat} (hj : (j' : Int) = j + v) (hx : (x' : Int) = x + u) : hemP (l.map (moveS (16 * u) (16 * v))) s j' x' = hemP l s j x := by
  unfold hemP
  rw [moved_cov h]
  congr 1 <;> omega
def moveClp (u v : Int) (c : Clp) : Clp := ⟨c.path.map (moveS (16 * u) (16 * v)), c.rule⟩
def NearsAt (u v : Int) (l : List Sg) : Prop := ∀ s ∈ l, nearS s = true ∧ nearS (moveS (16 * u) (16 * v) s) = true
theorem clipsP_move {u v : Int} {l : List Clp} (h : ∀ c ∈ l, pathMay c.path = true ∧ NearsAt u v c.path) {j x j' x' : Nat} (hj : (j' : Int) = j + v) (hx : (x' : Int) = x + u) (b1 : j < 64) (b2 : x < 64) (b3 : j' < 64) (b4 : x' < 64) : clipsP (l.map (moveClp u v)) j' x' = clipsP l j x := by
  unfold clipsP
  rw [List.all_map]
  rw [Bool.eq_iff_iff, List.all_eq_true, List.all_eq_true]
  have e : ∀ c ∈ l, ((fun c => fillP c.path c.rule j' x') ∘ moveClp u v) c = fillP c.path c.rule j x := fun c hc => fillP_move (h c hc).1 (h c hc).2 c.rule hj hx b1 b2 b3 b4
  exact ⟨fun k c hc => by rw [← e c hc]; exact k c hc, fun k c hc => by rw [e c hc]; exact k c hc⟩
end Go.Proofs.YtmnoeoecjfhhbaaGreat
