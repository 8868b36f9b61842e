/- Package bow: straight edges. -/
import Derived.Test.YtfnolaoohmecbaaArmM
namespace Go.Proofs.Ytfnolaoohmecbaa
def areaI (ax ay bx by_ cx cy : Int) : Int := (bx - ax) * (cy - ay) - (by_ - ay) * (cx - ax)
def stepUp (a b v p : Int) : Int := (if a ≤ v ∧ v < b ∧ 0 < p then 1 else 0) - (if b ≤ v ∧ v < a ∧ p < 0 then 1 else 0)
theorem turnS_area (ax ay bx by_ u v cx cy : Int) (bt : Bool) : turnS ⟨ax, ay, bt, cx, cy, bx, by_⟩ u v = stepUp ay by_ v (areaI ax ay bx by_ u v) := by
  have h1 : -(ax * (by_ - ay) + (bx - ax) * (v - ay)) - u * -(by_ - ay) = -(areaI ax ay bx by_ u v) := by unfold areaI; grind
  have h2 : (ax * (by_ - ay) + (bx - ax) * (v - ay)) - u * (by_ - ay) = areaI ax ay bx by_ u v := by unfold areaI; grind
  unfold turnS stepUp
  simp only [h1, h2]
  generalize areaI ax ay bx by_ u v = p
  split <;> (repeat' split) <;> omega
theorem mulsg (a b : Int) : (0 < a → 0 < b → 0 < a * b) ∧ (a < 0 → 0 < b → a * b < 0) ∧ (0 < a → b < 0 → a * b < 0) ∧ (a < 0 → b < 0 → 0 < a * b) ∧ (b = 0 → a * b = 0) :=
  ⟨fun h k => Int.mul_pos h k, fun h k => Int.mul_neg_of_neg_of_pos h k, fun h k => Int.mul_neg_of_pos_of_neg h k, fun h k => Int.mul_pos_of_neg_of_neg h k, fun h => by rw [h, Int.mul_zero]⟩
theorem area_flat {ax ay bx by_ u v : Int} (h : ay = v) (k : by_ = v) : areaI ax ay bx by_ u v = 0 := by
  subst h; subst k; unfold areaI; simp
theorem tri_sum (ax ay bx by_ cx cy u v : Int) : areaI ax ay bx by_ u v * (cy - v) + areaI bx by_ cx cy u v * (ay - v) + areaI cx cy ax ay u v * (by_ - v) = 0 := by
  unfold areaI; grind
/-- the sign of a product, as far as it is known -/
theorem sg_pos {a b : Int} (h : 0 < a) : (0 < b → 0 < a * b) ∧ (b < 0 → a * b < 0) ∧ (b = 0 → a * b = 0) := ⟨(mulsg a b).1 h, (mulsg a b).2.2.1 h, (mulsg a b).2.2.2.2⟩
theorem sg_neg {a b : Int} (h : a < 0) : (0 < b → a * b < 0) ∧ (b < 0 → 0 < a * b) ∧ (b = 0 → a * b = 0) := ⟨(mulsg a b).2.1 h, (mulsg a b).2.2.2.1 h, (mulsg a b).2.2.2.2⟩
def TriLaw (a b c p q r v : Int) : Prop :=
  (0 < p ∧ 0 < q ∧ 0 < r → stepUp a b v p + stepUp b c v q + stepUp c a v r = 1) ∧ (p < 0 ∧ q < 0 ∧ r < 0 → stepUp a b v p + stepUp b c v q + stepUp c a v r = -1) ∧ (-1 ≤ stepUp a b v p + stepUp b c v q + stepUp c a v r ∧ stepUp a b v p + stepUp b c v q + stepUp c a v r ≤ 1) ∧
    (p ≠ 0 → q ≠ 0 → r ≠ 0 → ¬ (0 < p ∧ 0 < q ∧ 0 < r) → ¬ (p < 0 ∧ q < 0 ∧ r < 0) → stepUp a b v p + stepUp b c v q + stepUp c a v r = 0)
theorem tri_bound (a b c p q r v : Int) : -1 ≤ stepUp a b v p + stepUp b c v q + stepUp c a v r ∧ stepUp a b v p + stepUp b c v q + stepUp c a v r ≤ 1 := by
  have one : ∀ x y p : Int, (x ≤ v → y ≤ v → stepUp x y v p = 0) ∧ (v < x → v < y → stepUp x y v p = 0) ∧ (x ≤ v → v < y → 0 ≤ stepUp x y v p ∧ stepUp x y v p ≤ 1) ∧ (v < x → y ≤ v → -1 ≤ stepUp x y v p ∧ stepUp x y v p ≤ 0) := by
    intro x y p
    unfold stepUp
    refine ⟨fun h k => ?_, fun h k => ?_, fun h k => ?_, fun h k => ?_⟩ <;> (repeat' split) <;> omega
  obtain ⟨a1, a2, a3, a4⟩ := one a b p
  obtain ⟨b1, b2, b3, b4⟩ := one b c q
  obtain ⟨c1, c2, c3, c4⟩ := one c a r
  generalize stepUp a b v p = x at *
  generalize stepUp b c v q = y at *
  generalize stepUp c a v r = z at *
  clear one
  rcases Int.lt_or_le v a with ha | ha <;> rcases Int.lt_or_le v b with hb | hb <;> rcases Int.lt_or_le v c with hc | hc <;> simp only [ha, hb, hc, true_implies] at * <;> omega
theorem up_pos {a b v p : Int} (h : 0 < p) : stepUp a b v p = if a ≤ v ∧ v < b then 1 else 0 := by
  unfold stepUp; (repeat' split) <;> omega
theorem up_neg {a b v p : Int} (h : p < 0) : stepUp a b v p = if b ≤ v ∧ v < a then -1 else 0 := by
  unfold stepUp; (repeat' split) <;> omega
set_option maxHeartbeats 4000000 in
theorem tri_law {a b c p q r v : Int} (hI : p * (c - v) + q * (a - v) + r * (b - v) = 0) (hp : a = v → b = v → p = 0) : TriLaw a b c p q r v := by
  refine ⟨?_, ?_, tri_bound a b c p q r v, ?_⟩
  · rintro ⟨h1, h2, h3⟩
    rw [up_pos h1, up_pos h2, up_pos h3]
    obtain ⟨p1, p2, p3⟩ := sg_pos (b := c - v) h1
    obtain ⟨q1, q2, q3⟩ := sg_pos (b := a - v) h2
    obtain ⟨r1, r2, r3⟩ := sg_pos (b := b - v) h3
    generalize p * (c - v) = P at *
    generalize q * (a - v) = Q at *
    generalize r * (b - v) = R at *
    rcases Int.lt_trichotomy v a with ha | ha | ha <;> rcases Int.lt_trichotomy v b with hb | hb | hb <;> rcases Int.lt_trichotomy v c with hc | hc | hc <;> (repeat' split) <;> omega
  · rintro ⟨h1, h2, h3⟩
    rw [up_neg h1, up_neg h2, up_neg h3]
    obtain ⟨p1, p2, p3⟩ := sg_neg (b := c - v) h1
    obtain ⟨q1, q2, q3⟩ := sg_neg (b := a - v) h2
    obtain ⟨r1, r2, r3⟩ := sg_neg (b := b - v) h3
    generalize p * (c - v) = P at *
    generalize q * (a - v) = Q at *
    generalize r * (b - v) = R at *
    rcases Int.lt_trichotomy v a with ha | ha | ha <;> rcases Int.lt_trichotomy v b with hb | hb | hb <;> rcases Int.lt_trichotomy v c with hc | hc | hc <;> (repeat' split) <;> omega
  · intro n1 n2 n3 n4 n5
    rcases (by omega : 0 < p ∨ p < 0) with h1 | h1 <;> rcases (by omega : 0 < q ∨ q < 0) with h2 | h2 <;> rcases (by omega : 0 < r ∨ r < 0) with h3 | h3
    all_goals
      first
      | omega
      | (first | rw [up_pos h1] | rw [up_neg h1]); (first | rw [up_pos h2] | rw [up_neg h2]); (first | rw [up_pos h3] | rw [up_neg h3])
        obtain ⟨p1, p2, p3⟩ := (by first | exact sg_pos (b := c - v) h1 | exact sg_neg (b := c - v) h1 : _ ∧ _ ∧ _)
        obtain ⟨q1, q2, q3⟩ := (by first | exact sg_pos (b := a - v) h2 | exact sg_neg (b := a - v) h2 : _ ∧ _ ∧ _)
        obtain ⟨r1, r2, r3⟩ := (by first | exact sg_pos (b := b - v) h3 | exact sg_neg (b := b - v) h3 : _ ∧ _ ∧ _)
        generalize p * (c - v) = P at *
        generalize q * (a - v) = Q at *
        generalize r * (b - v) = R at *
        rcases Int.lt_trichotomy v a with ha | ha | ha <;> rcases Int.lt_trichotomy v b with hb | hb | hb <;> rcases Int.lt_trichotomy v c with hc | hc | hc <;> (repeat' split) <;> omega

/-- a triangle around a point -/
theorem tri_wind (ax ay bx by_ cx cy u v : Int) : TriLaw ay by_ cy (areaI ax ay bx by_ u v) (areaI bx by_ cx cy u v) (areaI cx cy ax ay u v) v :=
  tri_law (tri_sum ax ay bx by_ cx cy u v) area_flat

/-- a box around a point -/
def boxK (x0 y0 x1 y1 u v : Int) : Int := if (min x0 x1 ≤ u ∧ u < max x0 x1) ∧ (min y0 y1 ≤ v ∧ v < max y0 y1) then (if decide (x0 < x1) = decide (y0 < y1) then 1 else -1) else 0
theorem side_turn (x y0 y1 u v : Int) : turnS ⟨x, y0, false, 0, 0, x, y1⟩ u v = (if y0 ≤ v ∧ v < y1 ∧ u < x then 1 else 0) - (if y1 ≤ v ∧ v < y0 ∧ u < x then 1 else 0) := by
  rw [turnS_area]
  have h : areaI x y0 x y1 u v = (y1 - y0) * (x - u) := by unfold areaI; grind
  rw [h]
  unfold stepUp
  obtain ⟨m1, m2, m3, m4, m5⟩ := mulsg (y1 - y0) (x - u)
  generalize (y1 - y0) * (x - u) = m at *
  rcases (by omega : 0 < y1 - y0 ∨ y1 - y0 < 0 ∨ y1 = y0) with h1 | h1 | h1 <;> rcases (by omega : 0 < x - u ∨ x - u < 0 ∨ x - u = 0) with h2 | h2 | h2 <;> (repeat' split) <;> omega
theorem flat_turn (x0 x1 y u v : Int) : turnS ⟨x0, y, false, 0, 0, x1, y⟩ u v = 0 := by
  simp only [turnS]
  rw [if_pos (by omega)]
theorem box_wind (x0 y0 x1 y1 u v : Int) : turnS ⟨x0, y0, false, 0, 0, x1, y0⟩ u v + turnS ⟨x1, y0, false, 0, 0, x1, y1⟩ u v + turnS ⟨x1, y1, false, 0, 0, x0, y1⟩ u v + turnS ⟨x0, y1, false, 0, 0, x0, y0⟩ u v = boxK x0 y0 x1 y1 u v := by
  rw [flat_turn, flat_turn, side_turn, side_turn]
  unfold boxK
  have e : (decide (x0 < x1) = decide (y0 < y1)) ↔ (x0 < x1 ↔ y0 < y1) := by
    constructor
    · intro h; rw [← decide_eq_true_iff (p := x0 < x1), h]; simp
    · intro h; simp [h]
  simp only [e]
  rcases (by omega : x0 < x1 ∨ x1 < x0 ∨ x0 = x1) with h1 | h1 | h1 <;> rcases (by omega : y0 < y1 ∨ y1 < y0 ∨ y0 = y1) with h2 | h2 | h2 <;> (repeat' split) <;> omega
open Go.RowKit

def sgn (p : Int) : Int := if p < 0 then -1 else if 0 < p then 1 else 0

theorem rootSgn_calls (p : Int) (w : World) : Calls Try.prog 131 #[.int .i64 p] w fun e w' => e = .returned (.int .i64 (sgn p)) ∧ w = w' := by
  rcases (by omega : p < 0 ∨ p = 0 ∨ 0 < p) with h | h | h
  · go_enter Try.func131, Try.ntmps131
    go_wp2
    go_ret
    exact ⟨ret_int (by unfold sgn; rw [if_pos h]), rfl⟩
  · subst h
    go_enter Try.func131, Try.ntmps131
    go_wp2
    go_ret
    exact ⟨ret_int (by unfold sgn; rfl), rfl⟩
  · go_enter Try.func131, Try.ntmps131
    go_wp2
    go_ret
    exact ⟨ret_int (by unfold sgn; rw [if_neg (by omega), if_pos h]), rfl⟩
theorem rootMay0_calls (w : World) : Calls Try.prog 130 #[.int .i64 0, .int .i64 0] w fun e w' => e = .returned (.bool true) ∧ w = w' := by
  go_enter Try.func130, Try.ntmps130
  go_wp2
  go_ret
  exact ⟨rfl, rfl⟩
theorem rootSign0_calls (p : Int) (h1 : -4611686018427387904 ≤ p) (h2 : p ≤ 4611686018427387904) (w : World) : Calls Try.prog 129 #[.int .i64 p, .int .i64 0, .int .i64 0] w fun e w' => e = .returned (.tuple #[.int .i64 (sgn p), .bool true]) ∧ w = w' := by
  rcases (by omega : p = 0 ∨ p ≠ 0) with h | h
  · subst h
    go_enter Try.func129, Try.ntmps129
    go_wp2_with (first | (go_at_call 130; (with_reducible refine (rootMay0_calls _).mono ?_); rintro e _ ⟨rfl, rfl⟩) | (go_at_call 131; (with_reducible refine (rootSgn_calls _ _).mono ?_); rintro e _ ⟨rfl, rfl⟩; try simp only [show sgn 0 = 0 from rfl]))
    go_ret2
    exact ⟨rfl, rfl⟩
  · have hs : sgn p ≠ 0 := by unfold sgn; (repeat' split) <;> omega
    have hb : -1 ≤ sgn p ∧ sgn p ≤ 1 := by unfold sgn; (repeat' split) <;> omega
    obtain ⟨hb1, hb2⟩ := hb
    generalize hg : sgn p = s at hs hb1 hb2 ⊢
    have Hg := Lib.hid hg; clear hg
    go_enter Try.func129, Try.ntmps129
    go_wp2_with (first | (go_at_call 130; (with_reducible refine (rootMay0_calls _).mono ?_); rintro e _ ⟨rfl, rfl⟩) | (go_at_call 131; (with_reducible refine (rootSgn_calls _ _).mono ?_); rintro e _ ⟨rfl, rfl⟩; first | rw [show sgn 0 = 0 from rfl] | rw [Hg.out]))
    go_ret2
    exact ⟨rfl, rfl⟩
open Go.RowKit

/-- an array of n structs of k cells -/
class ArrS (P : Program) (T : TypeId) (n : outParam Nat) (e : outParam TypeId) (k : outParam Nat) : Prop where
  out : P.underlying T = some (.array n e)
  agg : ∀ w, (isAgg e).run P w = .ok true w
  size : (P.info? e).map (·.size) = some k
theorem indexS {P : Program} {w : World} {K : Value → Prop} {T e : TypeId} {n k : Nat} {i : Int} {cs vs : Array Value} [hT : ArrS P T n e k] (h : K (.agg vs)) (h0 : 0 ≤ i := by omega) (h1 : i < (n : Int) := by omega) (hv : cs.extract (i.toNat * k) (i.toNat * k + k) = vs := by rfl) : IndexAt P T (.agg cs) i w K := by
  refine ⟨.agg vs, ?_, h⟩
  have hs := hT.size
  cases hq : P.info? e with
  | none => simp [hq] at hs
  | some i' =>
    have hs' : i'.size = k := by simpa [hq] using hs
    subst hv
    simp [Instr.index, asIntOf, run_underlying hT.out, Sem.run_bind, h0, h1, part, hT.agg, sizeOf, typeInfo, hq, hs']
theorem Holds.numsLit {w0 w : World} {M : List Res} {Φ : List (World → Prop)} {b : Nat} {cs : Array Value} {T : TypeId} (l : List Int) (hL : Holds w0 w M Φ) (k : At M (blk b cs T)) (hcs : cs = (l.map fun n => Value.int .i64 n).toArray) (hm : l.length ≤ maxLen := by (unfold maxLen; simp only [List.length_cons, List.length_nil]; omega)) : NumsAt w (.slice (some ⟨b, 0, none⟩) l.length l.length) l := by
  refine ⟨some ⟨b, 0, none⟩, l.length, by simp, by simp, hm, fun i hi => ⟨b, 0, rfl, fun j v hj => ?_⟩⟩
  simp only [List.length_map] at hi
  rcases j with _ | j
  · rw [Nat.zero_add, Nat.mul_one, Nat.add_zero, hL.cell k, hcs]
    simp only [List.getElem_map, List.getElem?_cons_zero, Option.some.injEq] at hj
    simp [hi, ← hj]
  · simp at hj

theorem mul_bd {a b A B : Int} (h1 : -A ≤ a) (h2 : a ≤ A) (h3 : -B ≤ b) (h4 : b ≤ B) : -(A * B) ≤ a * b ∧ a * b ≤ A * B := by
  have k1 := Int.mul_nonneg (show 0 ≤ A - a by omega) (show 0 ≤ B + b by omega)
  have k2 := Int.mul_nonneg (show 0 ≤ A + a by omega) (show 0 ≤ B - b by omega)
  have k3 := Int.mul_nonneg (show 0 ≤ A - a by omega) (show 0 ≤ B - b by omega)
  have k4 := Int.mul_nonneg (show 0 ≤ A + a by omega) (show 0 ≤ B + b by omega)
  have e1 : (A - a) * (B + b) + (A + a) * (B - b) = 2 * (A * B) - 2 * (a * b) := by grind
  have e2 : (A - a) * (B - b) + (A + a) * (B + b) = 2 * (A * B) + 2 * (a * b) := by grind
  omega

/-- where a straight edge crosses a line: the turn, the numerator, the denominator -/
def spT (e : Edg) (y : Int) : Int := if y < min e.y0 e.y1 ∨ max e.y0 e.y1 ≤ y then 0 else if e.y1 - e.y0 < 0 then -1 else 1
def spP (e : Edg) (y : Int) : Int := if y < min e.y0 e.y1 ∨ max e.y0 e.y1 ≤ y then 0 else if e.y1 - e.y0 < 0 then -(e.x0 * (e.y1 - e.y0) + (e.x1 - e.x0) * (y - e.y0)) else e.x0 * (e.y1 - e.y0) + (e.x1 - e.x0) * (y - e.y0)
def spM (e : Edg) (y : Int) : Int := if y < min e.y0 e.y1 ∨ max e.y0 e.y1 ≤ y then 0 else if e.y1 - e.y0 < 0 then -(e.y1 - e.y0) else e.y1 - e.y0
structure Small (e : Edg) (y : Int) : Prop where
  a0 : -8191 ≤ e.x0
  a1 : e.x0 ≤ 8191
  b0 : -8191 ≤ e.y0
  b1 : e.y0 ≤ 8191
  c0 : -8191 ≤ e.x1
  c1 : e.x1 ≤ 8191
  d0 : -8191 ≤ e.y1
  d1 : e.y1 ≤ 8191
  f0 : -8191 ≤ y
  f1 : y ≤ 8191

end Go.Proofs.Ytfnolaoohmecbaa
