/- Package bow: Line: an edge's crossings of a line. -/
import Derived.Test.YtfnolaoohmecbaaTrnM
import Derived.Test.YtfnolaoohmecbaaSpB
namespace Go.Proofs.Ytfnolaoohmecbaa
open Go.RowKit

/-! how far a root goes -/
theorem sgn_cases (p : Int) : (p < 0 ∧ sgn p = -1) ∨ (p = 0 ∧ sgn p = 0) ∨ (0 < p ∧ sgn p = 1) := by unfold sgn; (repeat' split) <;> omega
theorem sgR_nn {p q d : Int} (hd : 0 ≤ d) : 0 ≤ sgR p q d ↔ ((0 ≤ p ∧ (0 ≤ q ∨ d = 0)) ∨ (0 < p ∧ q < 0 ∧ 0 < d ∧ q * q * d ≤ p * p) ∨ (p < 0 ∧ 0 < q ∧ 0 < d ∧ p * p ≤ q * q * d)) := by
  rw [sgR_eq]
  generalize q * q * d = s
  generalize p * p = a
  unfold cmpI
  rcases sgn_cases q with ⟨h1, e1⟩ | ⟨h1, e1⟩ | ⟨h1, e1⟩ <;> rcases sgn_cases d with ⟨h2, e2⟩ | ⟨h2, e2⟩ | ⟨h2, e2⟩ <;> rcases sgn_cases p with ⟨h3, e3⟩ | ⟨h3, e3⟩ | ⟨h3, e3⟩ <;> rw [e1, e2, e3] <;> first
  | (exfalso; omega)
  | ((repeat' split) <;> omega)
theorem sq_mono {a b : Int} (h0 : 0 ≤ a) (h : a ≤ b) : a * a ≤ b * b := Int.mul_le_mul h h h0 (by omega)
theorem sq_anti {a b : Int} (h0 : b ≤ 0) (h : a ≤ b) : b * b ≤ a * a := by
  have := sq_mono (a := -b) (b := -a) (by omega) (by omega)
  rwa [Int.neg_mul_neg, Int.neg_mul_neg] at this
theorem sgR_mono {p p' q d : Int} (hd : 0 ≤ d) (h : p ≤ p') (h0 : 0 ≤ sgR p q d) : 0 ≤ sgR p' q d := by
  rw [sgR_nn hd] at h0 ⊢
  have k1 := fun h0 => sq_mono (a := p) (b := p') h0 h
  have k2 := fun h0 => sq_anti (a := p) (b := p') h0 h
  generalize q * q * d = s at *
  generalize p * p = a at *
  generalize p' * p' = b at *
  rcases h0 with h0 | h0 | h0
  · exact .inl (by omega)
  · exact .inr (.inl (by omega))
  · rcases (by omega : p' < 0 ∨ 0 ≤ p') with g | g
    · exact .inr (.inr (by omega))
    · exact .inl (by omega)
theorem sgR_negC (p q d : Int) : sgR (-p) (-q) d = -sgR p q d := by
  rw [sgR_eq, sgR_eq, Int.neg_mul_neg, Int.neg_mul_neg]
  generalize q * q * d = s
  generalize p * p = a
  rcases sgn_cases q with ⟨h1, e1⟩ | ⟨h1, e1⟩ | ⟨h1, e1⟩ <;> rcases sgn_cases d with ⟨h2, e2⟩ | ⟨h2, e2⟩ | ⟨h2, e2⟩ <;> rcases sgn_cases p with ⟨h3, e3⟩ | ⟨h3, e3⟩ | ⟨h3, e3⟩ <;> rcases sgn_cases (-q) with ⟨h4, e4⟩ | ⟨h4, e4⟩ | ⟨h4, e4⟩ <;> rcases sgn_cases (-p) with ⟨h5, e5⟩ | ⟨h5, e5⟩ | ⟨h5, e5⟩ <;> first
  | (exfalso; omega)
  | (rw [e1, e2, e3, e4, e5]; unfold cmpI; (repeat' split) <;> omega)

/-- t is the greatest number that isn't above the root -/
def IsCut (t q d : Int) : Prop := 0 ≤ sgR (-t) q d ∧ ¬ 0 ≤ sgR (-(t + 1)) q d
theorem IsCut.iff {t q d : Int} (hd : 0 ≤ d) (h : IsCut t q d) (n : Int) : n ≤ t ↔ 0 ≤ sgR (-n) q d := by
  constructor
  · intro hn; exact sgR_mono hd (by omega) h.1
  · intro hn
    rcases (by omega : n ≤ t ∨ t + 1 ≤ n) with g | g
    · exact g
    · exact absurd (sgR_mono hd (by omega) hn) h.2
/-! a spot's columns -/
theorem col_iff {s : Spt} (_ : 0 ≤ s.d) {k : Int} (h : ∀ j : Int, j ≤ k ↔ 0 ≤ sgR (8 * s.m - s.p - j * (16 * s.m)) (-s.q) s.d) (i : Int) : i < -k ↔ 0 < sgR (s.p - (16 * i + 8) * s.m) s.q s.d := by
  have e : 8 * s.m - s.p - (-i) * (16 * s.m) = -(s.p - (16 * i + 8) * s.m) := by grind
  have := h (-i)
  rw [e, sgR_negC] at this
  omega
theorem col_hit {s : Spt} (hd : 0 ≤ s.d) (ht : s.turn ≠ 0) {k : Int} (h : ∀ j : Int, j ≤ k ↔ 0 ≤ sgR (8 * s.m - s.p - j * (16 * s.m)) (-s.q) s.d) {n i : Nat} (hi : i < n) : (if (i : Int) < max 0 (min (-k) n) then s.turn else 0) = hitT s (16 * (i : Int) + 8) := by
  have := col_iff hd h i
  unfold hitT
  by_cases g : (i : Int) < -k
  · rw [if_pos (by omega), if_pos ⟨ht, this.1 g⟩]
  · rw [if_neg (by omega), if_neg (fun q => g (this.2 q.2))]
/-! crossings -/
/-- the turns of the crossings that have a column on their left -/
def left (cs : List (Int × Int)) (i : Int) : Int := (cs.map fun c => if i < c.2 then c.1 else 0).sum
theorem left_nil (i : Int) : left [] i = 0 := rfl
theorem left_append (a b : List (Int × Int)) (i : Int) : left (a ++ b) i = left a i + left b i := by simp [left]
theorem left_cons (c : Int × Int) (b : List (Int × Int)) (i : Int) : left (c :: b) i = (if i < c.2 then c.1 else 0) + left b i := by simp [left]
/-- what bow.Line's crossings are to be -/
structure Crosses (e : Edg) (y : Int) (n : Nat) (cs : List (Int × Int)) : Prop where
  len : cs.length ≤ 2
  bd : ∀ k, k < cs.length → 0 ≤ (cs.getD k (0, 0)).2 ∧ (cs.getD k (0, 0)).2 ≤ n ∧ -1 ≤ (cs.getD k (0, 0)).1 ∧ (cs.getD k (0, 0)).1 ≤ 1
  col : ∀ i : Nat, i < n → left cs i = turnG e (16 * (i : Int) + 8) y
open Go.RowKit

theorem cut_low {q d : Int} (q0 : -2147483648 ≤ q) (q1 : q ≤ 2147483648) (d0 : 0 ≤ d) (d1 : d ≤ 2147483648) : 0 ≤ sgR (-(-140737488355328)) q d ∧ ¬ 0 ≤ sgR (-140737488355328) q d := by
  obtain ⟨k1, k2⟩ := sq_bd q0 q1
  have k3 : 0 ≤ (4611686018427387904 - q * q) * d := Int.mul_nonneg (by omega) d0
  have k4 : q * q * d ≤ 4611686018427387904 * d := by rw [Int.sub_mul] at k3; omega
  rw [sgR_nn d0, sgR_nn d0]
  generalize q * q * d = s at *
  constructor
  · rcases (by omega : 0 ≤ q ∨ d = 0 ∨ (q < 0 ∧ 0 < d)) with h | h | h
    · exact .inl ⟨by omega, .inl h⟩
    · exact .inl ⟨by omega, .inr h⟩
    · exact .inr (.inl ⟨by omega, h.1, h.2, by omega⟩)
  · intro h
    omega
structure CutOk (p q d m : Int) : Prop where
  p0 : -1152921504606846976 ≤ p
  p1 : p ≤ 1152921504606846976
  q0 : -2147483648 ≤ q
  q1 : q ≤ 2147483648
  d0 : 0 ≤ d
  d1 : d ≤ 2147483648
  m0 : 1 ≤ m
  m1 : m ≤ 1099511627776
/-- what is known of t behind k rounds -/
structure CutAt (q d : Int) (k : Nat) (t : Int) : Prop where
  lo : -140737488355328 ≤ t
  hi : t + 2 ^ (48 - k) ≤ 140737488355328
  yes : 0 ≤ sgR (-t) q d
  no : ¬ 0 ≤ sgR (-(t + 2 ^ (48 - k))) q d
theorem CutAt.start {p q d m : Int} (h : CutOk p q d m) : CutAt q d 0 (-140737488355328) :=
  ⟨by omega, by decide, (cut_low h.q0 h.q1 h.d0 h.d1).1, (cut_low h.q0 h.q1 h.d0 h.d1).2⟩
theorem pow_half {k : Nat} (hk : k < 48) : (2 : Int) ^ (48 - k) = 2 * 2 ^ (47 - k) := by
  rw [show 48 - k = (47 - k) + 1 by omega, Int.pow_succ, Int.mul_comm]
theorem CutAt.up {q d : Int} {k : Nat} {t S : Int} (h : CutAt q d k t) (hk : k < 48) (hS : (2 : Int) ^ (47 - k) = S) (hs : 0 < S) (hr : 0 ≤ sgR (-(t + S)) q d) : CutAt q d (k + 1) (t + S) := by
  obtain ⟨a, b, c, e⟩ := h
  rw [pow_half hk, hS] at b e
  refine ⟨by omega, ?_, hr, ?_⟩
  · rw [show 48 - (k + 1) = 47 - k by omega, hS]; omega
  · rw [show 48 - (k + 1) = 47 - k by omega, hS, show t + S + S = t + 2 * S by omega]; exact e
theorem CutAt.stay {q d : Int} {k : Nat} {t S : Int} (h : CutAt q d k t) (hk : k < 48) (hS : (2 : Int) ^ (47 - k) = S) (hs : 0 < S) (hr : ¬ 0 ≤ sgR (-(t + S)) q d) : CutAt q d (k + 1) t := by
  obtain ⟨a, b, c, e⟩ := h
  rw [pow_half hk, hS] at b e
  refine ⟨a, ?_, c, ?_⟩
  · rw [show 48 - (k + 1) = 47 - k by omega, hS]; omega
  · rw [show 48 - (k + 1) = 47 - k by omega, hS]; exact hr
theorem CutAt.done {q d t : Int} (h : CutAt q d 48 t) : IsCut t q d := ⟨h.yes, h.no⟩
theorem CutAt.last {q d t : Int} (h : CutAt q d 48 t) : -140737488355328 ≤ t ∧ t ≤ 140737488355328 := by
  obtain ⟨a, b, _, _⟩ := h
  rw [show 48 - 48 = 0 by omega, Int.pow_zero] at b
  omega

open Go.RowKit

/-- what a spot adds -/
structure SpotAt (s : Spt) (n : Nat) (cs cs' : List (Int × Int)) : Prop where
  len : cs'.length ≤ cs.length + 1
  bd : (∀ c ∈ cs, 0 ≤ c.2 ∧ c.2 ≤ n ∧ -1 ≤ c.1 ∧ c.1 ≤ 1) → ∀ c ∈ cs', 0 ≤ c.2 ∧ c.2 ≤ n ∧ -1 ≤ c.1 ∧ c.1 ≤ 1
  col : ∀ i : Nat, i < n → left cs' i = left cs i + hitT s (16 * (i : Int) + 8)
theorem SpotAt.none {s : Spt} (n : Nat) (cs : List (Int × Int)) (ht : s.turn = 0) : SpotAt s n cs cs :=
  ⟨by omega, fun h => h, fun i _ => by unfold hitT; rw [if_neg (fun h => h.1 ht)]; omega⟩
theorem SpotAt.some {s : Spt} (n : Nat) (cs : List (Int × Int)) (hd : 0 ≤ s.d) (ht : s.turn ≠ 0) (hb : -1 ≤ s.turn ∧ s.turn ≤ 1) {k : Int} (h : ∀ j : Int, j ≤ k ↔ 0 ≤ sgR (8 * s.m - s.p - j * (16 * s.m)) (-s.q) s.d) : SpotAt s n cs (cs ++ [(s.turn, max 0 (min (-k) n))]) := by
  refine ⟨by simp, fun h0 c hc => ?_, fun i hi => ?_⟩
  · rcases List.mem_append.1 hc with g | g
    · exact h0 c g
    · rw [List.mem_singleton] at g
      subst g
      dsimp only
      omega
  · rw [left_append, left_cons, left_nil, ← col_hit hd ht h hi]
    dsimp only
    omega
end Go.Proofs.Ytfnolaoohmecbaa
