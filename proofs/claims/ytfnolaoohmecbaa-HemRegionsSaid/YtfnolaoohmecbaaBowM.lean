/- Package bow: straight edges. -/
import Derived.Test.YtfnolaoohmecbaaArmM
namespace Go.Proofs.Ytfnolaoohmecbaa
open Go.RowKit

def sgn (p : Int) : Int := if p < 0 then -1 else if 0 < p then 1 else 0

theorem rootSgn_calls (p : Int) (w : World) : Calls Try.prog 131 #[.int .i64 p] w fun e w' => e = .returned (.int .i64 (sgn p)) ∧ w = w' := by
  rcases (by omega : p < 0 ∨ p = 0 ∨ 0 < p) with h | h | h
  · go_enter Try.func131, Try.ntmps131
    go_wp2
    go_ret
    exact ⟨ret_int (by unfold sgn; rw [if_pos h]), rfl⟩
  · subst h
    go_enter Try.func131, Try.ntmps131
    go_wp2
    go_ret
    exact ⟨ret_int (by unfold sgn; rfl), rfl⟩
  · go_enter Try.func131, Try.ntmps131
    go_wp2
    go_ret
    exact ⟨ret_int (by unfold sgn; rw [if_neg (by omega), if_pos h]), rfl⟩
open Go.RowKit

/-- an array of n structs of k cells -/
class ArrS (P : Program) (T : TypeId) (n : outParam Nat) (e : outParam TypeId) (k : outParam Nat) : Prop where
  out : P.underlying T = some (.array n e)
  agg : ∀ w, (isAgg e).run P w = .ok true w
  size : (P.info? e).map (·.size) = some k
theorem Holds.numsLit {w0 w : World} {M : List Res} {Φ : List (World → Prop)} {b : Nat} {cs : Array Value} {T : TypeId} (l : List Int) (hL : Holds w0 w M Φ) (k : At M (blk b cs T)) (hcs : cs = (l.map fun n => Value.int .i64 n).toArray) (hm : l.length ≤ maxLen := by (unfold maxLen; simp only [List.length_cons, List.length_nil]; omega)) : NumsAt w (.slice (some ⟨b, 0, none⟩) l.length l.length) l := by
  refine ⟨some ⟨b, 0, none⟩, l.length, by simp, by simp, hm, fun i hi => ⟨b, 0, rfl, fun j v hj => ?_⟩⟩
  simp only [List.length_map] at hi
  rcases j with _ | j
  · rw [Nat.zero_add, Nat.mul_one, Nat.add_zero, hL.cell k, hcs]
    simp only [List.getElem_map, List.getElem?_cons_zero, Option.some.injEq] at hj
    simp [hi, ← hj]
  · simp at hj

theorem mul_bd {a b A B : Int} (h1 : -A ≤ a) (h2 : a ≤ A) (h3 : -B ≤ b) (h4 : b ≤ B) : -(A * B) ≤ a * b ∧ a * b ≤ A * B := by
  have k1 := Int.mul_nonneg (show 0 ≤ A - a by omega) (show 0 ≤ B + b by omega)
  have k2 := Int.mul_nonneg (show 0 ≤ A + a by omega) (show 0 ≤ B - b by omega)
  have k3 := Int.mul_nonneg (show 0 ≤ A - a by omega) (show 0 ≤ B - b by omega)
  have k4 := Int.mul_nonneg (show 0 ≤ A + a by omega) (show 0 ≤ B + b by omega)
  have e1 : (A - a) * (B + b) + (A + a) * (B - b) = 2 * (A * B) - 2 * (a * b) := by grind
  have e2 : (A - a) * (B - b) + (A + a) * (B + b) = 2 * (A * B) + 2 * (a * b) := by grind
  omega

structure Small (e : Edg) (y : Int) : Prop where
  a0 : -8191 ≤ e.x0
  a1 : e.x0 ≤ 8191
  b0 : -8191 ≤ e.y0
  b1 : e.y0 ≤ 8191
  c0 : -8191 ≤ e.x1
  c1 : e.x1 ≤ 8191
  d0 : -8191 ≤ e.y1
  d1 : e.y1 ≤ 8191
  f0 : -8191 ≤ y
  f1 : y ≤ 8191

end Go.Proofs.Ytfnolaoohmecbaa
