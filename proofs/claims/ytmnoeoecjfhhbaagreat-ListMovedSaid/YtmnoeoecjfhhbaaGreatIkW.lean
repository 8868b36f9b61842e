/- Moved marks, plain. -/
import Derived.Test.YtmnoeoecjfhhbaaGreatIkZ
import Derived.Test.YtmnoeoecjfhhbaaGreatIkM
namespace Go.Proofs.YtmnoeoecjfhhbaaGreat
open Go.RowKit

def moveI (u v : Int) (i : Itm) : Itm := { i with path := i.path.map (moveS (16 * u) (16 * v)), clips := i.clips.map (moveClp u v) }
theorem pathMay_moved {l : List Sg} {u v : Int} (h : NearsAt u v l) : pathMay (l.map (moveS (16 * u) (16 * v))) = pathMay l := by
  unfold pathMay
  rw [List.length_map, maySF_move l 0 h]
theorem straightS_moved {l : List Sg} {u v : Int} (h : NearsAt u v l) : straightS (l.map (moveS (16 * u) (16 * v))) = straightS l := by
  unfold straightS
  rw [pathMay_moved h, List.all_map]
  congr 1
  congr 1
  funext s
  show decide ((moveS (16 * u) (16 * v) s).kind ≠ 3) = decide (s.kind ≠ 3)
  rw [moveS_kind]
theorem mayItm_moved {i : Itm} {u v : Int} (hi : mayItm i = true) (hk : i.kind = 1 ∨ i.kind = 2) (h : NearsAt u v i.path) (hc : ∀ c ∈ i.clips, NearsAt u v c.path) : mayItm (moveI u v i) = true := by
  rw [← hi]
  unfold mayItm moveI
  dsimp only
  rw [pathMay_moved h, straightS_moved h]
  have e : mayClips (i.clips.map (moveClp u v)) = mayClips i.clips := by
    unfold mayClips
    rw [List.length_map, List.all_map]
    congr 1
    rw [Bool.eq_iff_iff, List.all_eq_true, List.all_eq_true]
    have key : ∀ c ∈ i.clips, ((fun c => pathMay c.path && isRule c.rule) ∘ moveClp u v) c = (pathMay c.path && isRule c.rule) := fun c hcm => by
      show (pathMay (c.path.map (moveS (16 * u) (16 * v))) && isRule c.rule) = _
      rw [pathMay_moved (hc c hcm)]
    exact ⟨fun k c hcm => by rw [← key c hcm]; exact k c hcm, fun k c hcm => by rw [key c hcm]; exact k c hcm⟩
  rw [e]
  rcases hk with hk | hk <;> rw [hk] <;> simp
theorem mayItm_clip {i : Itm} (hi : mayItm i = true) {c : Clp} (hc : c ∈ i.clips) : pathMay c.path = true ∧ (c.rule = 0 ∨ c.rule = 1) := by
  unfold mayItm at hi
  rw [Bool.and_eq_true] at hi
  have h1 := hi.1
  unfold mayClips at h1
  rw [Bool.and_eq_true, List.all_eq_true] at h1
  have h2 := h1.1 c hc
  rw [Bool.and_eq_true] at h2
  refine ⟨h2.1, ?_⟩
  have := h2.2
  unfold isRule at this
  simpa using this
theorem markP_moved {i : Itm} {u v : Int} (hi : mayItm i = true) (hk : i.kind = 1 ∨ i.kind = 2) (h : NearsAt u v i.path) (hc : ∀ c ∈ i.clips, NearsAt u v c.path) {j x j' x' : Nat} (hj : (j' : Int) = j + v) (hx : (x' : Int) = x + u) (b1 : j < 64) (b2 : x < 64) (b3 : j' < 64) (b4 : x' < 64) : markP (moveI u v i) j' x' = markP i j x := by
  have e1 := clipsP_move (l := i.clips) (fun c hcm => ⟨(mayItm_clip hi hcm).1, hc c hcm⟩) hj hx b1 b2 b3 b4
  unfold markP
  show (baseP (moveI u v i) j' x' && clipsP (i.clips.map (moveClp u v)) j' x') = _
  rw [e1]
  congr 1
  rcases hk with hk | hk
  · have hm : pathMay i.path = true := by
      unfold mayItm at hi
      rw [hk] at hi
      simp at hi
      exact hi.2.1
    unfold baseP
    rw [if_pos (show (moveI u v i).kind = 1 from hk), if_pos hk]
    exact fillP_move hm h i.rule hj hx b1 b2 b3 b4
  · unfold baseP
    rw [if_neg (show ¬ (moveI u v i).kind = 1 by show ¬ i.kind = 1; omega), if_pos (show (moveI u v i).kind = 2 from hk), if_neg (by omega), if_pos hk]
    exact hemP_move h i.style hj hx
end Go.Proofs.YtmnoeoecjfhhbaaGreat
