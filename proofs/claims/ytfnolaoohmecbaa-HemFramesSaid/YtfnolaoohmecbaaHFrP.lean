/- The stroke of an upright box, plain: its four sides. -/
import Derived.Test.YtfnolaoohmecbaaHmV2
namespace Go.Proofs.Ytfnolaoohmecbaa
open Go.RowKit

theorem sq_le_iff {a k : Int} (hk : 0 ≤ k) : a * a ≤ k * k ↔ -k ≤ a ∧ a ≤ k := by
  constructor
  · intro h
    have key : ∀ t : Int, k < t → ¬ t * t ≤ k * k := fun t ht h2 => by
      have h1 := Int.mul_nonneg (show 0 ≤ t - k - 1 by omega) (show 0 ≤ t + k by omega)
      have e : (t - k - 1) * (t + k) = t * t - k * k - t - k := by grind
      omega
    constructor
    · apply Int.not_lt.1
      intro h2
      exact key (-a) (by omega) (by rw [Int.neg_mul_neg]; exact h)
    · apply Int.not_lt.1
      intro h2
      exact key a h2 h
  · intro h
    exact sqH_mono h.1 h.2
/-- along a direction: between both ends -/
theorem along_iff {v d : Int} (hd : d ≠ 0) : (0 ≤ v * d ∧ v * d ≤ d * d) ↔ ((0 ≤ v ∧ v ≤ d) ∨ (d ≤ v ∧ v ≤ 0)) := by
  rcases (by omega : 0 < d ∨ d < 0) with h | h
  · have e1 : 0 ≤ v * d ↔ 0 ≤ v := by
      have := le_times (a := 0) (b := v) h
      rw [Int.zero_mul] at this
      exact this.symm
    have e2 : v * d ≤ d * d ↔ v ≤ d := (le_times h).symm
    rw [e1, e2]
    omega
  · have e1 : 0 ≤ v * d ↔ v ≤ 0 := by
      have := le_times (a := 0) (b := -v) (l := -d) (by omega)
      rw [Int.zero_mul, Int.neg_mul_neg] at this
      rw [← this]; omega
    have e2 : v * d ≤ d * d ↔ d ≤ v := by
      have := le_times (a := -v) (b := -d) (l := -d) (by omega)
      rw [Int.neg_mul_neg, Int.neg_mul_neg] at this
      rw [← this]; omega
    rw [e1, e2]
    omega
theorem across_iff {v d k : Int} (hd : d ≠ 0) (hk : 0 ≤ k) : 4 * (v * d * (v * d)) ≤ 2 * k * (2 * k) * (d * d) ↔ -k ≤ v ∧ v ≤ k := by
  have hdd : 0 < d * d := by
    have := Int.natAbs_pos.2 hd
    rw [← Int.natAbs_mul_self]
    exact_mod_cast Nat.mul_pos this this
  rw [show 4 * (v * d * (v * d)) = 4 * (v * v) * (d * d) by grind, show 2 * k * (2 * k) * (d * d) = 4 * (k * k) * (d * d) by grind, ← le_times hdd, ← sq_le_iff hk]
  omega
theorem piece_level {a b c k : Int} (h : a ≠ c) (hk : 0 ≤ k) (x y : Int) : pieceIn ⟨a, b, false, 0, 0, c, b⟩ (2 * k) false false x y = true ↔ ((a ≤ x ∧ x ≤ c) ∨ (c ≤ x ∧ x ≤ a)) ∧ (b - k ≤ y ∧ y ≤ b + k) := by
  have h1 := along_iff (v := x - a) (d := c - a) (by omega)
  have h2 := across_iff (v := y - b) (d := c - a) (k := k) (by omega) hk
  unfold pieceIn
  dsimp only
  simp only [Bool.and_eq_true, Bool.or_eq_true, decide_eq_true_eq, Bool.false_and, Bool.false_eq_true, or_false]
  rw [Int.sub_self b, Int.mul_zero, Int.mul_zero, Int.mul_zero, Int.add_zero, Int.add_zero, show (0 - (y - b) * (c - a)) * (0 - (y - b) * (c - a)) = (y - b) * (c - a) * ((y - b) * (c - a)) by grind, h2, h1]
  omega
theorem piece_upright {a b c k : Int} (h : b ≠ c) (hk : 0 ≤ k) (x y : Int) : pieceIn ⟨a, b, false, 0, 0, a, c⟩ (2 * k) false false x y = true ↔ ((b ≤ y ∧ y ≤ c) ∨ (c ≤ y ∧ y ≤ b)) ∧ (a - k ≤ x ∧ x ≤ a + k) := by
  have h1 := along_iff (v := y - b) (d := c - b) (by omega)
  have h2 := across_iff (v := x - a) (d := c - b) (k := k) (by omega) hk
  unfold pieceIn
  dsimp only
  simp only [Bool.and_eq_true, Bool.or_eq_true, decide_eq_true_eq, Bool.false_and, Bool.false_eq_true, or_false]
  rw [Int.sub_self a, Int.mul_zero, Int.mul_zero, Int.mul_zero, Int.zero_add, Int.zero_add, Int.sub_zero, h2, h1]
  omega
def frameP (x0 y0 x1 y1 : Int) : List Sg := [⟨1, x0, y0, 0, 0⟩, ⟨2, x1, y0, 0, 0⟩, ⟨2, x1, y1, 0, 0⟩, ⟨2, x0, y1, 0, 0⟩, ⟨4, 0, 0, 0, 0⟩]
theorem frame_may {x0 y0 x1 y1 : Int} (h1 : NearP' x0 y0) (h2 : NearP' x1 y1) : pathMay (frameP x0 y0 x1 y1) = true ∧ straightS (frameP x0 y0 x1 y1) = true := by
  obtain ⟨⟨a1, a2⟩, a3, a4⟩ := h1
  obtain ⟨⟨b1, b2⟩, b3, b4⟩ := h2
  have h : pathMay (frameP x0 y0 x1 y1) = true := by
    have n1 : near1 x0 = true := (near_iff' _).2 ⟨a1, a2⟩
    have n2 : near1 y0 = true := (near_iff' _).2 ⟨a3, a4⟩
    have n3 : near1 x1 = true := (near_iff' _).2 ⟨b1, b2⟩
    have n4 : near1 y1 = true := (near_iff' _).2 ⟨b3, b4⟩
    have n5 : near1 0 = true := by decide
    simp [pathMay, frameP, maySF, rightS, n1, n2, n3, n4, n5]
  refine ⟨h, ?_⟩
  unfold straightS
  rw [h]
  rfl
theorem frame_cov {x0 y0 x1 y1 k : Int} (h1 : NearP' x0 y0) (h2 : NearP' x1 y1) (hx : x0 < x1) (hy : y0 < y1) (hk : 0 ≤ k) (x y : Int) : covL (allS (frameP x0 y0 x1 y1) ⟨2 * k, 0, 0⟩) x y = true ↔
    ((x0 ≤ x ∧ x ≤ x1) ∧ ((y0 - k ≤ y ∧ y ≤ y0 + k) ∨ (y1 - k ≤ y ∧ y ≤ y1 + k))) ∨ ((y0 ≤ y ∧ y ≤ y1) ∧ ((x0 - k ≤ x ∧ x ≤ x0 + k) ∨ (x1 - k ≤ x ∧ x ≤ x1 + k))) := by
  have hc : contoursS (frameP x0 y0 x1 y1) = [⟨x0, y0, [⟨x0, y0, false, 0, 0, x1, y0⟩, ⟨x1, y0, false, 0, 0, x1, y1⟩, ⟨x1, y1, false, 0, 0, x0, y1⟩], true⟩] := by
    unfold contoursS
    rw [if_pos (frame_may h1 h2).1]
    rfl
  have hp : piecesC ⟨x0, y0, [⟨x0, y0, false, 0, 0, x1, y0⟩, ⟨x1, y0, false, 0, 0, x1, y1⟩, ⟨x1, y1, false, 0, 0, x0, y1⟩], true⟩ = [⟨x0, y0, false, 0, 0, x1, y0⟩, ⟨x1, y0, false, 0, 0, x1, y1⟩, ⟨x1, y1, false, 0, 0, x0, y1⟩, ⟨x0, y1, false, 0, 0, x0, y0⟩] := by
    have n1 : x0 ≠ x1 := by omega
    have n2 : y0 ≠ y1 := by omega
    have n3 : x1 ≠ x0 := by omega
    have n4 : y1 ≠ y0 := by omega
    simp [piecesC, shutE, goes, posE, n1, n2, n3, n4]
  unfold allS
  rw [hc]
  simp only [List.flatMap_cons, List.flatMap_nil, List.append_nil]
  unfold shapesC
  rw [hp]
  have e : ∀ x y, covL ((if ([⟨x0, y0, false, 0, 0, x1, y0⟩, ⟨x1, y0, false, 0, 0, x1, y1⟩, ⟨x1, y1, false, 0, 0, x0, y1⟩, ⟨x0, y1, false, 0, 0, x0, y0⟩] : List Edg).length = 0 then dotS ⟨x0, y0, [⟨x0, y0, false, 0, 0, x1, y0⟩, ⟨x1, y0, false, 0, 0, x1, y1⟩, ⟨x1, y1, false, 0, 0, x0, y1⟩], true⟩ ⟨2 * k, 0, 0⟩ else []) ++ shapesL true ⟨2 * k, 0, 0⟩ [⟨x0, y0, false, 0, 0, x1, y0⟩, ⟨x1, y0, false, 0, 0, x1, y1⟩, ⟨x1, y1, false, 0, 0, x0, y1⟩, ⟨x0, y1, false, 0, 0, x0, y0⟩] 4) x y =
      (pieceIn ⟨x0, y0, false, 0, 0, x1, y0⟩ (2 * k) false false x y || (pieceIn ⟨x1, y0, false, 0, 0, x1, y1⟩ (2 * k) false false x y || (pieceIn ⟨x1, y1, false, 0, 0, x0, y1⟩ (2 * k) false false x y || pieceIn ⟨x0, y1, false, 0, 0, x0, y0⟩ (2 * k) false false x y))) := by
    intro x y
    unfold covL shapesL shapesE covS
    simp [List.range_succ]
  erw [e]
  simp only [Bool.or_eq_true]
  rw [piece_level (by omega) hk, piece_upright (by omega) hk, piece_level (by omega) hk, piece_upright (by omega) hk]
  omega
end Go.Proofs.Ytfnolaoohmecbaa
