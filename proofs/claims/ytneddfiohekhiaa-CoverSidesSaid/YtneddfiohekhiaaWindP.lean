/- Plain laws: straight edges around a point. -/
import Derived.Test.YtneddfiohekhiaaEdgeAt
namespace Go.Proofs.Ytneddfiohekhiaa

def areaI (ax ay bx by_ cx cy : Int) : Int := (bx - ax) * (cy - ay) - (by_ - ay) * (cx - ax)
def stepUp (a b v p : Int) : Int := (if a ≤ v ∧ v < b ∧ 0 < p then 1 else 0) - (if b ≤ v ∧ v < a ∧ p < 0 then 1 else 0)
theorem turnS_area (ax ay bx by_ u v cx cy : Int) (bt : Bool) : turnS ⟨ax, ay, bt, cx, cy, bx, by_⟩ u v = stepUp ay by_ v (areaI ax ay bx by_ u v) := by
  have h1 : -(ax * (by_ - ay) + (bx - ax) * (v - ay)) - u * -(by_ - ay) = -(areaI ax ay bx by_ u v) := by unfold areaI; grind
  have h2 : (ax * (by_ - ay) + (bx - ax) * (v - ay)) - u * (by_ - ay) = areaI ax ay bx by_ u v := by unfold areaI; grind
  unfold turnS stepUp
  simp only [h1, h2]
  generalize areaI ax ay bx by_ u v = p
  split <;> (repeat' split) <;> omega
theorem mulsg (a b : Int) : (0 < a → 0 < b → 0 < a * b) ∧ (a < 0 → 0 < b → a * b < 0) ∧ (0 < a → b < 0 → a * b < 0) ∧ (a < 0 → b < 0 → 0 < a * b) ∧ (b = 0 → a * b = 0) :=
  ⟨fun h k => Int.mul_pos h k, fun h k => Int.mul_neg_of_neg_of_pos h k, fun h k => Int.mul_neg_of_pos_of_neg h k, fun h k => Int.mul_pos_of_neg_of_neg h k, fun h => by rw [h, Int.mul_zero]⟩
theorem area_flat {ax ay bx by_ u v : Int} (h : ay = v) (k : by_ = v) : areaI ax ay bx by_ u v = 0 := by
  subst h; subst k; unfold areaI; simp
theorem tri_sum (ax ay bx by_ cx cy u v : Int) : areaI ax ay bx by_ u v * (cy - v) + areaI bx by_ cx cy u v * (ay - v) + areaI cx cy ax ay u v * (by_ - v) = 0 := by
  unfold areaI; grind
/-- the sign of a product, as far as it is known -/
theorem sg_pos {a b : Int} (h : 0 < a) : (0 < b → 0 < a * b) ∧ (b < 0 → a * b < 0) ∧ (b = 0 → a * b = 0) := ⟨(mulsg a b).1 h, (mulsg a b).2.2.1 h, (mulsg a b).2.2.2.2⟩
theorem sg_neg {a b : Int} (h : a < 0) : (0 < b → a * b < 0) ∧ (b < 0 → 0 < a * b) ∧ (b = 0 → a * b = 0) := ⟨(mulsg a b).2.1 h, (mulsg a b).2.2.2.1 h, (mulsg a b).2.2.2.2⟩
def TriLaw (a b c p q r v : Int) : Prop :=
  (0 < p ∧ 0 < q ∧ 0 < r → stepUp a b v p + stepUp b c v q + stepUp c a v r = 1) ∧ (p < 0 ∧ q < 0 ∧ r < 0 → stepUp a b v p + stepUp b c v q + stepUp c a v r = -1) ∧ (-1 ≤ stepUp a b v p + stepUp b c v q + stepUp c a v r ∧ stepUp a b v p + stepUp b c v q + stepUp c a v r ≤ 1) ∧
    (p ≠ 0 → q ≠ 0 → r ≠ 0 → ¬ (0 < p ∧ 0 < q ∧ 0 < r) → ¬ (p < 0 ∧ q < 0 ∧ r < 0) → stepUp a b v p + stepUp b c v q + stepUp c a v r = 0)
theorem tri_bound (a b c p q r v : Int) : -1 ≤ stepUp a b v p + stepUp b c v q + stepUp c a v r ∧ stepUp a b v p + stepUp b c v q + stepUp c a v r ≤ 1 := by
  have one : ∀ x y p : Int, (x ≤ v → y ≤ v → stepUp x y v p = 0) ∧ (v < x → v < y → stepUp x y v p = 0) ∧ (x ≤ v → v < y → 0 ≤ stepUp x y v p ∧ stepUp x y v p ≤ 1) ∧ (v < x → y ≤ v → -1 ≤ stepUp x y v p ∧ stepUp x y v p ≤ 0) := by
    intro x y p
    unfold stepUp
    refine ⟨fun h k => ?_, fun h k => ?_, fun h k => ?_, fun h k => ?_⟩ <;> (repeat' split) <;> omega
  obtain ⟨a1, a2, a3, a4⟩ := one a b p
  obtain ⟨b1, b2, b3, b4⟩ := one b c q
  obtain ⟨c1, c2, c3, c4⟩ := one c a r
  generalize stepUp a b v p = x at *
  generalize stepUp b c v q = y at *
  generalize stepUp c a v r = z at *
  clear one
  rcases Int.lt_or_le v a with ha | ha <;> rcases Int.lt_or_le v b with hb | hb <;> rcases Int.lt_or_le v c with hc | hc <;> simp only [ha, hb, hc, true_implies] at * <;> omega
theorem up_pos {a b v p : Int} (h : 0 < p) : stepUp a b v p = if a ≤ v ∧ v < b then 1 else 0 := by
  unfold stepUp; (repeat' split) <;> omega
theorem up_neg {a b v p : Int} (h : p < 0) : stepUp a b v p = if b ≤ v ∧ v < a then -1 else 0 := by
  unfold stepUp; (repeat' split) <;> omega
set_option maxHeartbeats 4000000 in
theorem tri_law {a b c p q r v : Int} (hI : p * (c - v) + q * (a - v) + r * (b - v) = 0) (hp : a = v → b = v → p = 0) : TriLaw a b c p q r v := by
  refine ⟨?_, ?_, tri_bound a b c p q r v, ?_⟩
  · rintro ⟨h1, h2, h3⟩
    rw [up_pos h1, up_pos h2, up_pos h3]
    obtain ⟨p1, p2, p3⟩ := sg_pos (b := c - v) h1
    obtain ⟨q1, q2, q3⟩ := sg_pos (b := a - v) h2
    obtain ⟨r1, r2, r3⟩ := sg_pos (b := b - v) h3
    generalize p * (c - v) = P at *
    generalize q * (a - v) = Q at *
    generalize r * (b - v) = R at *
    rcases Int.lt_trichotomy v a with ha | ha | ha <;> rcases Int.lt_trichotomy v b with hb | hb | hb <;> rcases Int.lt_trichotomy v c with hc | hc | hc <;> (repeat' split) <;> omega
  · rintro ⟨h1, h2, h3⟩
    rw [up_neg h1, up_neg h2, up_neg h3]
    obtain ⟨p1, p2, p3⟩ := sg_neg (b := c - v) h1
    obtain ⟨q1, q2, q3⟩ := sg_neg (b := a - v) h2
    obtain ⟨r1, r2, r3⟩ := sg_neg (b := b - v) h3
    generalize p * (c - v) = P at *
    generalize q * (a - v) = Q at *
    generalize r * (b - v) = R at *
    rcases Int.lt_trichotomy v a with ha | ha | ha <;> rcases Int.lt_trichotomy v b with hb | hb | hb <;> rcases Int.lt_trichotomy v c with hc | hc | hc <;> (repeat' split) <;> omega
  · intro n1 n2 n3 n4 n5
    rcases (by omega : 0 < p ∨ p < 0) with h1 | h1 <;> rcases (by omega : 0 < q ∨ q < 0) with h2 | h2 <;> rcases (by omega : 0 < r ∨ r < 0) with h3 | h3
    all_goals
      first
      | omega
      | (first | rw [up_pos h1] | rw [up_neg h1]); (first | rw [up_pos h2] | rw [up_neg h2]); (first | rw [up_pos h3] | rw [up_neg h3])
        obtain ⟨p1, p2, p3⟩ := (by first | exact sg_pos (b := c - v) h1 | exact sg_neg (b := c - v) h1 : _ ∧ _ ∧ _)
        obtain ⟨q1, q2, q3⟩ := (by first | exact sg_pos (b := a - v) h2 | exact sg_neg (b := a - v) h2 : _ ∧ _ ∧ _)
        obtain ⟨r1, r2, r3⟩ := (by first | exact sg_pos (b := b - v) h3 | exact sg_neg (b := b - v) h3 : _ ∧ _ ∧ _)
        generalize p * (c - v) = P at *
        generalize q * (a - v) = Q at *
        generalize r * (b - v) = R at *
        rcases Int.lt_trichotomy v a with ha | ha | ha <;> rcases Int.lt_trichotomy v b with hb | hb | hb <;> rcases Int.lt_trichotomy v c with hc | hc | hc <;> (repeat' split) <;> omega

/-- a triangle around a point -/
theorem tri_wind (ax ay bx by_ cx cy u v : Int) : TriLaw ay by_ cy (areaI ax ay bx by_ u v) (areaI bx by_ cx cy u v) (areaI cx cy ax ay u v) v :=
  tri_law (tri_sum ax ay bx by_ cx cy u v) area_flat

/-- a box around a point -/
def boxK (x0 y0 x1 y1 u v : Int) : Int := if (min x0 x1 ≤ u ∧ u < max x0 x1) ∧ (min y0 y1 ≤ v ∧ v < max y0 y1) then (if decide (x0 < x1) = decide (y0 < y1) then 1 else -1) else 0
theorem side_turn (x y0 y1 u v : Int) : turnS ⟨x, y0, false, 0, 0, x, y1⟩ u v = (if y0 ≤ v ∧ v < y1 ∧ u < x then 1 else 0) - (if y1 ≤ v ∧ v < y0 ∧ u < x then 1 else 0) := by
  rw [turnS_area]
  have h : areaI x y0 x y1 u v = (y1 - y0) * (x - u) := by unfold areaI; grind
  rw [h]
  unfold stepUp
  obtain ⟨m1, m2, m3, m4, m5⟩ := mulsg (y1 - y0) (x - u)
  generalize (y1 - y0) * (x - u) = m at *
  rcases (by omega : 0 < y1 - y0 ∨ y1 - y0 < 0 ∨ y1 = y0) with h1 | h1 | h1 <;> rcases (by omega : 0 < x - u ∨ x - u < 0 ∨ x - u = 0) with h2 | h2 | h2 <;> (repeat' split) <;> omega
theorem flat_turn (x0 x1 y u v : Int) : turnS ⟨x0, y, false, 0, 0, x1, y⟩ u v = 0 := by
  simp only [turnS]
  rw [if_pos (by omega)]
theorem box_wind (x0 y0 x1 y1 u v : Int) : turnS ⟨x0, y0, false, 0, 0, x1, y0⟩ u v + turnS ⟨x1, y0, false, 0, 0, x1, y1⟩ u v + turnS ⟨x1, y1, false, 0, 0, x0, y1⟩ u v + turnS ⟨x0, y1, false, 0, 0, x0, y0⟩ u v = boxK x0 y0 x1 y1 u v := by
  rw [flat_turn, flat_turn, side_turn, side_turn]
  unfold boxK
  have e : (decide (x0 < x1) = decide (y0 < y1)) ↔ (x0 < x1 ↔ y0 < y1) := by
    constructor
    · intro h; rw [← decide_eq_true_iff (p := x0 < x1), h]; simp
    · intro h; simp [h]
  simp only [e]
  rcases (by omega : x0 < x1 ∨ x1 < x0 ∨ x0 = x1) with h1 | h1 | h1 <;> rcases (by omega : y0 < y1 ∨ y1 < y0 ∨ y0 = y1) with h2 | h2 | h2 <;> (repeat' split) <;> omega
end Go.Proofs.Ytneddfiohekhiaa
