/- Package bow: bent edges. -/
import Derived.Test.YtfnolaoohmecbaaSgnM
-- lit6
namespace Go.Proofs.Ytfnolaoohmecbaa
open Go.RowKit

theorem sgR_bd {p q d : Int} : -1 ≤ sgR p q d ∧ sgR p q d ≤ 1 := by
  rw [sgR_eq]
  have h1 := sgn_bd p
  have h2 := mul1_bd (sgn_bd q) (sgn_bd d)
  have h3 := mul1_bd (sgn_bd p) (cmpI_bd (p * p) (q * q * d))
  (repeat' split) <;> omega
/-- what the arithmetic of a bent edge stays within -/
structure BOk (x0 a b d ax bx : Int) : Prop where
  b0 : -16382 ≤ b
  b1 : b ≤ 16382
  a0 : -32764 ≤ a
  a1 : a ≤ 32764
  ax0 : -32764 ≤ ax
  ax1 : ax ≤ 32764
  bx0 : -16382 ≤ bx
  bx1 : bx ≤ 16382
  f0 : -8191 ≤ x0
  f1 : x0 ≤ 8191
  d0 : 0 ≤ d
  d1 : d ≤ 805109772

theorem oneS_neg {a : Int} (h : a < 0) (s x0 b d ax bx : Int) : oneS s x0 a b d ax bx = if (0 < s ∧ (-sgR (-b) s d < 0 ∨ 0 ≤ -sgR (-b - a) s d)) ∨ (s < 0 ∧ (-sgR (-b) s d ≤ 0 ∨ 0 < -sgR (-b - a) s d)) then noSpt else ⟨s, oneP x0 a b d ax bx, oneQ s a b ax bx, d, a * a⟩ := by
  unfold oneS sideI
  rw [if_pos h, Int.neg_one_mul, Int.neg_one_mul]
theorem oneS_pos {a : Int} (h : 0 < a) (s x0 b d ax bx : Int) : oneS s x0 a b d ax bx = if (0 < s ∧ (sgR (-b) s d < 0 ∨ 0 ≤ sgR (-b - a) s d)) ∨ (s < 0 ∧ (sgR (-b) s d ≤ 0 ∨ 0 < sgR (-b - a) s d)) then noSpt else ⟨s, oneP x0 a b d ax bx, oneQ s a b ax bx, d, a * a⟩ := by
  have hs : (if a < 0 then (-1 : Int) else 1) = 1 := if_neg (by omega)
  unfold oneS sideI
  rw [hs, Int.one_mul, Int.one_mul]
theorem oneQ_1 (a b ax bx : Int) : oneQ 1 a b ax bx = 2 * a * bx - 2 * b * ax := by unfold oneQ; rw [Int.one_mul]
theorem oneQ_2 (a b ax bx : Int) : oneQ (-1) a b ax bx = -(2 * a * bx - 2 * b * ax) := by unfold oneQ; rw [Int.neg_one_mul]
theorem oneQ_3 (a b ax bx : Int) : oneQ (-1) a b ax bx = -1 * (2 * a * bx - 2 * b * ax) := rfl
theorem oneQ_4 (a b ax bx : Int) : oneQ (-1) a b ax bx = 2 * b * ax - 2 * a * bx := by rw [oneQ_2]; omega

end Go.Proofs.Ytfnolaoohmecbaa
