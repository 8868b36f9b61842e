/- Package stroke: what a piece, a disc, a square cover. -/
import Derived.Test.YtfnolaoohmecbaaHmR
import Derived.Test.YtfnolaoohmecbaaBxPM
import Derived.Test.YtfnolaoohmecbaaSgnM
-- lit6
namespace Go.Proofs.Ytfnolaoohmecbaa
open Go.RowKit

theorem sgn_neg' {p : Int} (h : p < 0) : sgn p = -1 := by unfold sgn; split <;> (try split) <;> omega
theorem sgn_pos' {p : Int} (h : 0 < p) : sgn p = 1 := by unfold sgn; split <;> (try split) <;> omega
theorem sgn_ahead {p q d : Int} (hp : p ≤ 0) (hq : 0 ≤ q) (hd : 0 ≤ d) : 0 ≤ sgR p q d ↔ p * p ≤ q * q * d := by
  have hqd : 0 ≤ q * q * d := Int.mul_nonneg (Int.mul_nonneg hq hq) hd
  rcases (by omega : d = 0 ∨ 0 < d) with rfl | h
  · rw [sgR_zero, Int.mul_zero]
    rcases (by omega : p = 0 ∨ p < 0) with rfl | h
    · simp [sgn]
    · have : 0 < p * p := Int.mul_pos_of_neg_of_neg h h
      rw [sgn_neg' h]
      omega
  · rw [sgR_pos p q h]
    have hqd2 : q = 0 → q * q * d = 0 := fun h => by rw [h]; simp
    rcases (by omega : p = 0 ∨ p < 0) with rfl | h1
    · rw [if_pos (.inl (by rfl)), Int.mul_zero]
      rcases (by omega : q = 0 ∨ 0 < q) with rfl | h2
      · simp [sgn]
      · rw [sgn_pos' h2]; omega
    · have hpp : 0 < p * p := Int.mul_pos_of_neg_of_neg h1 h1
      have e1 := sgn_neg' h1
      rcases (by omega : q = 0 ∨ 0 < q) with rfl | h2
      · have e2 : sgn 0 = 0 := rfl
        rw [e1, e2, if_neg (by omega), if_pos rfl, hqd2 rfl]
        omega
      · have e2 := sgn_pos' h2
        rw [e1, e2, if_neg (by omega), if_neg (by omega)]
        unfold cmpI
        repeat' split
        all_goals omega
theorem sgn_behind {p q d : Int} (hp : 0 ≤ p) (hq : 0 ≤ q) (hd : 0 ≤ d) : sgR p (-q) d ≤ 0 ↔ p * p ≤ q * q * d := by
  have hqd : 0 ≤ q * q * d := Int.mul_nonneg (Int.mul_nonneg hq hq) hd
  rcases (by omega : d = 0 ∨ 0 < d) with rfl | h
  · rw [sgR_zero, Int.mul_zero]
    rcases (by omega : p = 0 ∨ 0 < p) with rfl | h
    · simp [sgn]
    · have : 0 < p * p := Int.mul_pos h h
      rw [sgn_pos' h]
      omega
  · rw [sgR_pos p (-q) h, show -q * -q = q * q by rw [Int.neg_mul_neg]]
    have hqd2 : q = 0 → q * q * d = 0 := fun h => by rw [h]; simp
    rcases (by omega : p = 0 ∨ 0 < p) with rfl | h1
    · rw [if_pos (.inl (by rfl)), Int.mul_zero]
      rcases (by omega : q = 0 ∨ 0 < q) with rfl | h2
      · simp [sgn]
      · rw [sgn_neg' (p := -q) (by omega)]; omega
    · have hpp : 0 < p * p := Int.mul_pos h1 h1
      have e1 := sgn_pos' h1
      rcases (by omega : q = 0 ∨ 0 < q) with rfl | h2
      · have e2 : sgn (-0) = 0 := rfl
        rw [e1, e2, if_neg (by omega), if_pos rfl, hqd2 rfl]
        omega
      · have e2 := sgn_neg' (p := -q) (by omega)
        rw [e1, e2, if_neg (by omega), if_neg (by omega)]
        unfold cmpI
        repeat' split
        all_goals omega
end Go.Proofs.Ytfnolaoohmecbaa
