/- Small coordinates. -/
import Derived.Test.YtneddfiohekhiaaWindC
import Derived.Test.YtneddfiohekhiaaWindP
namespace Go.Proofs.Ytneddfiohekhiaa
open Go.RowKit

def ptI (v : Int) : Int := v % 400 - 60
theorem ptI_bd (v : Int) : -60 ≤ ptI v ∧ ptI v ≤ 339 := by
  have p1 := Int.emod_nonneg v (show (400 : Int) ≠ 0 by omega)
  have p2 := Int.emod_lt_of_pos v (show (0 : Int) < 400 by omega)
  unfold ptI; omega
theorem near_small {v : Int} (h : -60 ≤ v ∧ v ≤ 339) : near1 v = true := by simp [near1]; omega
theorem turnE_small {a b c d u v : Int} (h1 : -60 ≤ a ∧ a ≤ 339) (h2 : -60 ≤ b ∧ b ≤ 339) (h3 : -60 ≤ c ∧ c ≤ 339) (h4 : -60 ≤ d ∧ d ≤ 339) (h5 : -60 ≤ u ∧ u ≤ 339) (h6 : -60 ≤ v ∧ v ≤ 339) : turnE ⟨a, b, false, 0, 0, c, d⟩ u v = turnS ⟨a, b, false, 0, 0, c, d⟩ u v := by
  unfold turnE mayE
  rw [if_pos]
  simp only [near_small h1, near_small h2, near_small h3, near_small h4, near_small h5, near_small h6]
  rfl
end Go.Proofs.Ytneddfiohekhiaa
