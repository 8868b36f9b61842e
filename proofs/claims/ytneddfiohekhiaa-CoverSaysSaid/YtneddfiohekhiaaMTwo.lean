/- The document's Of and Two. -/
import Derived.Test.YtneddfiohekhiaaMSay
import Derived.Test.YtneddfiohekhiaaBxPM
-- uses arrU
-- lit6
namespace Go.Proofs.Ytneddfiohekhiaa
open Go.RowKit

/-- what the document's Of returns -/
def OnOf (kk : Int) (f : Bool → Bool → Bool) : Prop := ∀ x y w, Calls Try.prog 56 #[.int .i64 kk, .bool x, .bool y] w fun e w' => e = .returned (.bool (f x y)) ∧ w = w'
theorem onOf1 : OnOf 1 (fun x y => x || y) := fun x y w => by
  cases x <;> cases y
  all_goals
    go_enter Try.func56, Try.ntmps56
    go_wp2
    go_ret
    exact ⟨rfl, rfl⟩
theorem onOf2 : OnOf 2 (fun x y => x && y) := fun x y w => by
  cases x <;> cases y
  all_goals
    go_enter Try.func56, Try.ntmps56
    go_wp2
    go_ret
    exact ⟨rfl, rfl⟩
theorem onOf3 : OnOf 3 (fun x y => x && !y) := fun x y w => by
  cases x <;> cases y
  all_goals
    go_enter Try.func56, Try.ntmps56
    go_wp2
    go_ret
    exact ⟨rfl, rfl⟩
theorem onOf4 : OnOf 4 (fun x y => x != y) := fun x y w => by
  cases x <;> cases y
  all_goals
    go_enter Try.func56, Try.ntmps56
    go_wp2
    go_ret
    exact ⟨rfl, rfl⟩
theorem bothF_skip (W n : Nat) (f : Bool → Bool → Bool) (p q : Nat → Nat → Bool) (k : Nat) (h : bit (f (p (k / W) (k % W)) (q (k / W) (k % W))) = 0) : arrU n (bothF W f p q k) = arrU n (bothF W f p q (k + 1)) := by
  refine arrU_congr fun x _ => ?_
  unfold bothF
  by_cases hx : x = k
  · subst hx; rw [if_neg (by omega), if_pos (by omega), h]
  · have : x < k + 1 ↔ x < k := by omega
    simp [this]
end Go.Proofs.Ytneddfiohekhiaa
