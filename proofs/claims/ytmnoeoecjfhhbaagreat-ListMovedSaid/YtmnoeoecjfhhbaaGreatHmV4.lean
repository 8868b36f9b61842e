/- Strokes, plain: reversed paths cover the same. -/
import Derived.Test.YtmnoeoecjfhhbaaGreatHmV3
namespace Go.Proofs.YtmnoeoecjfhhbaaGreat
open Go.RowKit

/-- what a contour's pieces cover -/
theorem covE_iff (sh : Bool) (s : Sty) (n i : Nat) (e : Edg) (x y : Int) : covL (shapesE sh s n i e) x y = true ↔
    pieceIn e s.wide ((decide (i = 0) && !sh) && decide (s.cap = 2)) ((decide (i + 1 = n) && !sh) && decide (s.cap = 2)) x y = true ∨
    ((((decide (i = 0) && !sh) && decide (s.cap = 1)) || (!(decide (i = 0) && !sh) && decide (s.join = 1))) = true ∧ discIn e.x0 e.y0 s.wide x y = true) ∨
    (((decide (i + 1 = n) && !sh) && decide (s.cap = 1)) = true ∧ discIn e.x1 e.y1 s.wide x y = true) := by
  unfold shapesE covL
  rw [List.any_append, List.any_append, Bool.or_eq_true, Bool.or_eq_true]
  refine or_congr ?_ (or_congr ?_ ?_)
  · simp [covS]
  · split
    · rename_i h; rw [h]; simp [covS, around]
    · rename_i h; simp only [Bool.not_eq_true] at h; rw [h]; simp
  · split
    · rename_i h; rw [h]; simp [covS, around]
    · rename_i h; simp only [Bool.not_eq_true] at h; rw [h]; simp
theorem covP_iff (sh : Bool) (s : Sty) (L : List Edg) (x y : Int) : covL (shapesL sh s L L.length) x y = true ↔ ∃ i, ∃ h : i < L.length, covL (shapesE sh s L.length i L[i]) x y = true := by
  unfold shapesL covL
  rw [List.any_flatMap, List.any_eq_true]
  constructor
  · rintro ⟨i, hi, h⟩
    have hi := List.mem_range.1 hi
    refine ⟨i, hi, ?_⟩
    rw [show L.getD i default = L[i] by simp [hi]] at h
    exact h
  · rintro ⟨i, hi, h⟩
    refine ⟨i, List.mem_range.2 hi, ?_⟩
    rw [show L.getD i default = L[i] by simp [hi]]
    exact h
end Go.Proofs.YtmnoeoecjfhhbaaGreat
