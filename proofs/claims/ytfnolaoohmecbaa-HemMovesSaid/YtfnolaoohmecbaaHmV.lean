/- Strokes, plain: one run, joined paths, wider ones. -/
import Derived.Test.YtfnolaoohmecbaaHmP
import Derived.Test.YtfnolaoohmecbaaJnM
import Derived.Test.YtfnolaoohmecbaaSpB
namespace Go.Proofs.Ytfnolaoohmecbaa
open Go.RowKit

/-! runs of a convex set -/
theorem rruns_ne {p : Nat → Bool} : ∀ {n : Nat}, rruns p n ≠ [] → ∃ i, i < n ∧ p i = true
  | 0, h => absurd rfl h
  | n + 1, h => by
    cases hp : p n with
    | true => exact ⟨n, by omega, hp⟩
    | false =>
      rw [rruns_off hp] at h
      obtain ⟨i, hi, hpi⟩ := rruns_ne h
      exact ⟨i, by omega, hpi⟩
theorem rruns_head {p : Nat → Bool} {n : Nat} (h : p n = true) : ∃ f r, rruns p (n + 1) = (f, (n : Int) + 1) :: r := by
  unfold rruns
  rw [if_pos h]
  split
  · split
    · exact ⟨_, _, rfl⟩
    · exact ⟨_, _, rfl⟩
  · exact ⟨_, _, rfl⟩
theorem rruns_one {p : Nat → Bool} : ∀ (n : Nat), (∀ i j k, i < j → j < k → k < n → p i = true → p k = true → p j = true) → (rruns p n).length ≤ 1
  | 0, _ => by simp [rruns]
  | n + 1, h => by
    have ih := rruns_one n fun i j k h1 h2 h3 => h i j k h1 h2 (by omega)
    cases hp : p n with
    | false => rw [rruns_off hp]; exact ih
    | true =>
      by_cases h0 : rruns p n = []
      · unfold rruns
        rw [if_pos hp, h0]
        simp
      · obtain ⟨i, hi, hpi⟩ := rruns_ne h0
        obtain ⟨m, rfl⟩ : ∃ m, n = m + 1 := ⟨n - 1, by omega⟩
        have hpm : p m = true := by
          by_cases e : i = m
          · rw [← e]; exact hpi
          · exact h i m (m + 1) (by omega) (by omega) (by omega) hpi hp
        obtain ⟨f, r, hr⟩ := rruns_head hpm
        rw [hr] at ih
        rw [rruns, if_pos hp, hr]
        dsimp only
        rw [if_pos (by omega)]
        simpa using ih
theorem runs_one {p : Nat → Bool} {n : Nat} (h : ∀ i j k, i < j → j < k → k < n → p i = true → p k = true → p j = true) : (runsTo p n).length ≤ 1 := by
  unfold runsTo
  rw [List.length_reverse]
  exact rruns_one n h

/-! what a piece with its ends covers on a line is convex -/
def Cvx (P : Int → Prop) : Prop := ∀ a b c, a ≤ b → b ≤ c → P a → P c → P b
theorem Cvx.and {P Q : Int → Prop} (h : Cvx P) (k : Cvx Q) : Cvx fun x => P x ∧ Q x := fun a b c h1 h2 ha hc => ⟨h a b c h1 h2 ha.1 hc.1, k a b c h1 h2 ha.2 hc.2⟩
theorem sqH_mono {a b : Int} (h : -b ≤ a) (h2 : a ≤ b) : a * a ≤ b * b := by
  have k1 := Int.mul_nonneg (show 0 ≤ b - a by omega) (show 0 ≤ b + a by omega)
  have : (b - a) * (b + a) = b * b - a * a := by grind
  omega
theorem sq_between {a b c N : Int} (h : (a ≤ b ∧ b ≤ c) ∨ (c ≤ b ∧ b ≤ a)) (ha : a * a ≤ N) (hc : c * c ≤ N) : b * b ≤ N := by
  rcases Int.le_total 0 b with hb | hb
  · rcases h with h | h
    · exact Int.le_trans (sqH_mono (by omega) h.2) hc
    · exact Int.le_trans (sqH_mono (by omega) h.2) ha
  · rcases h with h | h
    · have := sqH_mono (a := b) (b := -a) (by omega) (by omega)
      rw [Int.neg_mul_neg] at this
      exact Int.le_trans this ha
    · have := sqH_mono (a := b) (b := -c) (by omega) (by omega)
      rw [Int.neg_mul_neg] at this
      exact Int.le_trans this hc
theorem affine_between (p q : Int) {a b c : Int} (h1 : a ≤ b) (h2 : b ≤ c) : (p * a + q ≤ p * b + q ∧ p * b + q ≤ p * c + q) ∨ (p * c + q ≤ p * b + q ∧ p * b + q ≤ p * a + q) := by
  rcases Int.le_total 0 p with hp | hp
  · have k1 := Int.mul_le_mul_of_nonneg_left h1 hp
    have k2 := Int.mul_le_mul_of_nonneg_left h2 hp
    exact .inl (by omega)
  · have k1 := Int.mul_le_mul_of_nonpos_left hp h1
    have k2 := Int.mul_le_mul_of_nonpos_left hp h2
    exact .inr (by omega)
theorem cvx_sq (p q N : Int) : Cvx fun x => (p * x + q) * (p * x + q) ≤ N := fun _ _ _ h1 h2 ha hc => sq_between (affine_between p q h1 h2) ha hc
theorem cvx_up (p q N : Int) (f : Bool) : Cvx fun x => 0 ≤ p * x + q ∨ (f = true ∧ (p * x + q) * (p * x + q) ≤ N) := fun a b c h1 h2 ha hc => by
  rcases Int.lt_or_le (p * b + q) 0 with hb | hb
  · rcases affine_between p q h1 h2 with h | h
    · rcases ha with ha | ⟨hf, ha⟩
      · omega
      · have := sqH_mono (a := p * b + q) (b := -(p * a + q)) (by omega) (by omega)
        rw [Int.neg_mul_neg] at this
        exact .inr ⟨hf, Int.le_trans this ha⟩
    · rcases hc with hc | ⟨hf, hc⟩
      · omega
      · have := sqH_mono (a := p * b + q) (b := -(p * c + q)) (by omega) (by omega)
        rw [Int.neg_mul_neg] at this
        exact .inr ⟨hf, Int.le_trans this hc⟩
  · exact .inl hb
theorem pieceIn_iff (e : Edg) (w : Int) (f l : Bool) (x y : Int) : pieceIn e w f l x y = true ↔
    (2 * (e.y1 - e.y0) * x + (-(2 * e.x0) * (e.y1 - e.y0) - 2 * (y - e.y0) * (e.x1 - e.x0))) * (2 * (e.y1 - e.y0) * x + (-(2 * e.x0) * (e.y1 - e.y0) - 2 * (y - e.y0) * (e.x1 - e.x0))) ≤ w * w * ((e.x1 - e.x0) * (e.x1 - e.x0) + (e.y1 - e.y0) * (e.y1 - e.y0)) ∧
    ((0 ≤ 2 * (e.x1 - e.x0) * x + (-(2 * e.x0) * (e.x1 - e.x0) + 2 * (y - e.y0) * (e.y1 - e.y0)) ∨ (f = true ∧ (2 * (e.x1 - e.x0) * x + (-(2 * e.x0) * (e.x1 - e.x0) + 2 * (y - e.y0) * (e.y1 - e.y0))) * (2 * (e.x1 - e.x0) * x + (-(2 * e.x0) * (e.x1 - e.x0) + 2 * (y - e.y0) * (e.y1 - e.y0))) ≤ w * w * ((e.x1 - e.x0) * (e.x1 - e.x0) + (e.y1 - e.y0) * (e.y1 - e.y0)))) ∧
    (0 ≤ -2 * (e.x1 - e.x0) * x + (2 * e.x0 * (e.x1 - e.x0) - 2 * (y - e.y0) * (e.y1 - e.y0) + 2 * ((e.x1 - e.x0) * (e.x1 - e.x0) + (e.y1 - e.y0) * (e.y1 - e.y0))) ∨ (l = true ∧ (-2 * (e.x1 - e.x0) * x + (2 * e.x0 * (e.x1 - e.x0) - 2 * (y - e.y0) * (e.y1 - e.y0) + 2 * ((e.x1 - e.x0) * (e.x1 - e.x0) + (e.y1 - e.y0) * (e.y1 - e.y0)))) * (-2 * (e.x1 - e.x0) * x + (2 * e.x0 * (e.x1 - e.x0) - 2 * (y - e.y0) * (e.y1 - e.y0) + 2 * ((e.x1 - e.x0) * (e.x1 - e.x0) + (e.y1 - e.y0) * (e.y1 - e.y0)))) ≤ w * w * ((e.x1 - e.x0) * (e.x1 - e.x0) + (e.y1 - e.y0) * (e.y1 - e.y0))))) := by
  have e1 : 2 * (e.y1 - e.y0) * x + (-(2 * e.x0) * (e.y1 - e.y0) - 2 * (y - e.y0) * (e.x1 - e.x0)) = 2 * ((x - e.x0) * (e.y1 - e.y0) - (y - e.y0) * (e.x1 - e.x0)) := by grind
  have e2 : 2 * (e.x1 - e.x0) * x + (-(2 * e.x0) * (e.x1 - e.x0) + 2 * (y - e.y0) * (e.y1 - e.y0)) = 2 * ((x - e.x0) * (e.x1 - e.x0) + (y - e.y0) * (e.y1 - e.y0)) := by grind
  have e3 : -2 * (e.x1 - e.x0) * x + (2 * e.x0 * (e.x1 - e.x0) - 2 * (y - e.y0) * (e.y1 - e.y0) + 2 * ((e.x1 - e.x0) * (e.x1 - e.x0) + (e.y1 - e.y0) * (e.y1 - e.y0))) = -2 * ((x - e.x0) * (e.x1 - e.x0) + (y - e.y0) * (e.y1 - e.y0) - ((e.x1 - e.x0) * (e.x1 - e.x0) + (e.y1 - e.y0) * (e.y1 - e.y0))) := by grind
  rw [e1, e2, e3]
  unfold pieceIn
  generalize (x - e.x0) * (e.y1 - e.y0) - (y - e.y0) * (e.x1 - e.x0) = k
  generalize (x - e.x0) * (e.x1 - e.x0) + (y - e.y0) * (e.y1 - e.y0) = u
  generalize w * w * ((e.x1 - e.x0) * (e.x1 - e.x0) + (e.y1 - e.y0) * (e.y1 - e.y0)) = N
  generalize (e.x1 - e.x0) * (e.x1 - e.x0) + (e.y1 - e.y0) * (e.y1 - e.y0) = q
  rw [show 2 * k * (2 * k) = 4 * (k * k) by grind, show 2 * u * (2 * u) = 4 * (u * u) by grind, show -2 * (u - q) * (-2 * (u - q)) = 4 * ((u - q) * (u - q)) by grind]
  simp only [Bool.and_eq_true, Bool.or_eq_true, decide_eq_true_eq]
  refine and_congr Iff.rfl (and_congr (or_congr ?_ Iff.rfl) (or_congr ?_ Iff.rfl)) <;> omega
theorem pieceIn_cvx (e : Edg) (w : Int) (f l : Bool) (y : Int) : Cvx fun x => pieceIn e w f l x y = true := by
  intro a b c h1 h2 ha hc
  rw [pieceIn_iff] at ha hc ⊢
  exact ⟨cvx_sq _ _ _ a b c h1 h2 ha.1 hc.1, cvx_up _ _ _ f a b c h1 h2 ha.2.1 hc.2.1, cvx_up _ _ _ l a b c h1 h2 ha.2.2 hc.2.2⟩
theorem discIn_cvx (px py w y : Int) : Cvx fun x => discIn px py w x y = true := by
  intro a b c h1 h2 ha hc
  unfold discIn at *
  simp only [decide_eq_true_eq] at *
  have := sq_between (a := a - px) (b := b - px) (c := c - px) (N := (max ((a - px) * (a - px)) ((c - px) * (c - px)))) (.inl (by omega)) (by omega) (by omega)
  omega
theorem squareIn_cvx (px py w y : Int) : Cvx fun x => squareIn px py w x y = true := by
  intro a b c h1 h2 ha hc
  unfold squareIn at *
  simp only [Bool.and_eq_true, decide_eq_true_eq] at *
  omega
/-- a square of what lies below a mean -/
theorem mean_sq {α β f f1 f2 : Int} (hα : 0 ≤ α) (hβ : 0 ≤ β) (hf : 0 ≤ (α + β) * f) (h : (α + β) * f ≤ α * f1 + β * f2) : (α + β) * f * ((α + β) * f) ≤ (α + β) * (α * (f1 * f1) + β * (f2 * f2)) := by
  have h1 := Int.mul_le_mul h h hf (Int.le_trans hf h)
  have h2 := Int.mul_nonneg (Int.mul_nonneg hα hβ) (show 0 ≤ (f1 - f2) * (f1 - f2) by rw [← Int.natAbs_mul_self]; omega)
  have : (α + β) * (α * (f1 * f1) + β * (f2 * f2)) = (α * f1 + β * f2) * (α * f1 + β * f2) + α * β * ((f1 - f2) * (f1 - f2)) := by grind
  omega
theorem mean_sqE {α β f f1 f2 : Int} (hα : 0 ≤ α) (hβ : 0 ≤ β) (h : (α + β) * f = α * f1 + β * f2) : (α + β) * f * ((α + β) * f) ≤ (α + β) * (α * (f1 * f1) + β * (f2 * f2)) := by
  have h2 := Int.mul_nonneg (Int.mul_nonneg hα hβ) (show 0 ≤ (f1 - f2) * (f1 - f2) by rw [← Int.natAbs_mul_self]; omega)
  have : (α + β) * (α * (f1 * f1) + β * (f2 * f2)) = (α * f1 + β * f2) * (α * f1 + β * f2) + α * β * ((f1 - f2) * (f1 - f2)) := by grind
  rw [h]
  omega
/-- the squared distance from a piece, times its length, by its three parts -/
def stadG (e : Edg) (x y : Int) : Int :=
  ((x - e.x0) * (e.y1 - e.y0) - (y - e.y0) * (e.x1 - e.x0)) * ((x - e.x0) * (e.y1 - e.y0) - (y - e.y0) * (e.x1 - e.x0)) +
  max (-((x - e.x0) * (e.x1 - e.x0) + (y - e.y0) * (e.y1 - e.y0))) 0 * max (-((x - e.x0) * (e.x1 - e.x0) + (y - e.y0) * (e.y1 - e.y0))) 0 +
  max ((x - e.x0) * (e.x1 - e.x0) + (y - e.y0) * (e.y1 - e.y0) - ((e.x1 - e.x0) * (e.x1 - e.x0) + (e.y1 - e.y0) * (e.y1 - e.y0))) 0 * max ((x - e.x0) * (e.x1 - e.x0) + (y - e.y0) * (e.y1 - e.y0) - ((e.x1 - e.x0) * (e.x1 - e.x0) + (e.y1 - e.y0) * (e.y1 - e.y0))) 0
theorem le_times {a b l : Int} (hl : 0 < l) : a ≤ b ↔ a * l ≤ b * l := ⟨fun h => Int.mul_le_mul_of_nonneg_right h (by omega), fun h => Int.le_of_mul_le_mul_right h hl⟩
theorem stad_iff {e : Edg} (hl : 0 < (e.x1 - e.x0) * (e.x1 - e.x0) + (e.y1 - e.y0) * (e.y1 - e.y0)) (w x y : Int) : (pieceIn e w false false x y = true ∨ discIn e.x0 e.y0 w x y = true ∨ discIn e.x1 e.y1 w x y = true) ↔ 4 * stadG e x y ≤ w * w * ((e.x1 - e.x0) * (e.x1 - e.x0) + (e.y1 - e.y0) * (e.y1 - e.y0)) := by
  have hA : 4 * ((x - e.x0) * (x - e.x0) + (y - e.y0) * (y - e.y0)) * ((e.x1 - e.x0) * (e.x1 - e.x0) + (e.y1 - e.y0) * (e.y1 - e.y0)) = 4 * (((x - e.x0) * (e.x1 - e.x0) + (y - e.y0) * (e.y1 - e.y0)) * ((x - e.x0) * (e.x1 - e.x0) + (y - e.y0) * (e.y1 - e.y0))) + 4 * (((x - e.x0) * (e.y1 - e.y0) - (y - e.y0) * (e.x1 - e.x0)) * ((x - e.x0) * (e.y1 - e.y0) - (y - e.y0) * (e.x1 - e.x0))) := by grind
  have hB : 4 * ((x - e.x1) * (x - e.x1) + (y - e.y1) * (y - e.y1)) * ((e.x1 - e.x0) * (e.x1 - e.x0) + (e.y1 - e.y0) * (e.y1 - e.y0)) = 4 * (((x - e.x0) * (e.x1 - e.x0) + (y - e.y0) * (e.y1 - e.y0) - ((e.x1 - e.x0) * (e.x1 - e.x0) + (e.y1 - e.y0) * (e.y1 - e.y0))) * ((x - e.x0) * (e.x1 - e.x0) + (y - e.y0) * (e.y1 - e.y0) - ((e.x1 - e.x0) * (e.x1 - e.x0) + (e.y1 - e.y0) * (e.y1 - e.y0)))) + 4 * (((x - e.x0) * (e.y1 - e.y0) - (y - e.y0) * (e.x1 - e.x0)) * ((x - e.x0) * (e.y1 - e.y0) - (y - e.y0) * (e.x1 - e.x0))) := by grind
  have dA : discIn e.x0 e.y0 w x y = true ↔ 4 * ((x - e.x0) * (x - e.x0) + (y - e.y0) * (y - e.y0)) * ((e.x1 - e.x0) * (e.x1 - e.x0) + (e.y1 - e.y0) * (e.y1 - e.y0)) ≤ w * w * ((e.x1 - e.x0) * (e.x1 - e.x0) + (e.y1 - e.y0) * (e.y1 - e.y0)) := by
    unfold discIn
    rw [decide_eq_true_eq]
    exact le_times hl
  have dB : discIn e.x1 e.y1 w x y = true ↔ 4 * ((x - e.x1) * (x - e.x1) + (y - e.y1) * (y - e.y1)) * ((e.x1 - e.x0) * (e.x1 - e.x0) + (e.y1 - e.y0) * (e.y1 - e.y0)) ≤ w * w * ((e.x1 - e.x0) * (e.x1 - e.x0) + (e.y1 - e.y0) * (e.y1 - e.y0)) := by
    unfold discIn
    rw [decide_eq_true_eq]
    exact le_times hl
  rw [dA, dB, hA, hB]
  clear dA dB hA hB
  unfold pieceIn stadG
  generalize (x - e.x0) * (e.y1 - e.y0) - (y - e.y0) * (e.x1 - e.x0) = k
  generalize (x - e.x0) * (e.x1 - e.x0) + (y - e.y0) * (e.y1 - e.y0) = u
  generalize w * w * ((e.x1 - e.x0) * (e.x1 - e.x0) + (e.y1 - e.y0) * (e.y1 - e.y0)) = C
  generalize (e.x1 - e.x0) * (e.x1 - e.x0) + (e.y1 - e.y0) * (e.y1 - e.y0) = l at *
  simp only [Bool.and_eq_true, Bool.or_eq_true, decide_eq_true_eq, Bool.false_and, Bool.false_eq_true, or_false]
  have nn : ∀ t : Int, 0 ≤ t * t := fun t => by rw [← Int.natAbs_mul_self]; omega
  have nk := nn k
  have nu := nn u
  have nul := nn (u - l)
  rcases (by omega : u < 0 ∨ (0 ≤ u ∧ u ≤ l) ∨ l < u) with h | ⟨h, h2⟩ | h
  · rw [show max (-u) 0 = -u by omega, show max (u - l) 0 = 0 by omega, Int.neg_mul_neg]
    have m := Int.mul_nonneg (show 0 ≤ -u by omega) (show 0 ≤ l by omega)
    have e : (u - l) * (u - l) = u * u + 2 * (-u * l) + l * l := by grind
    have := nn l
    omega
  · rw [show max (-u) 0 = 0 by omega, show max (u - l) 0 = 0 by omega]
    omega
  · rw [show max (-u) 0 = 0 by omega, show max (u - l) 0 = u - l by omega]
    have m := Int.mul_nonneg (show 0 ≤ u - l by omega) (show 0 ≤ l by omega)
    have e : u * u = (u - l) * (u - l) + 2 * ((u - l) * l) + l * l := by grind
    have := nn l
    omega
theorem stad_cvx (e : Edg) (y C : Int) : Cvx fun x => 4 * stadG e x y ≤ C := by
  intro a b c h1 h2 ha hc
  by_cases hac : a = c
  · have : b = a := by omega
    rw [this]; exact ha
  · have hD : 0 < (c - b) + (b - a) := by omega
    have hα : 0 ≤ c - b := by omega
    have hβ : 0 ≤ b - a := by omega
    have k1 : ((c - b) + (b - a)) * ((b - e.x0) * (e.y1 - e.y0) - (y - e.y0) * (e.x1 - e.x0)) = (c - b) * ((a - e.x0) * (e.y1 - e.y0) - (y - e.y0) * (e.x1 - e.x0)) + (b - a) * ((c - e.x0) * (e.y1 - e.y0) - (y - e.y0) * (e.x1 - e.x0)) := by grind
    have u1 : ((c - b) + (b - a)) * ((b - e.x0) * (e.x1 - e.x0) + (y - e.y0) * (e.y1 - e.y0)) = (c - b) * ((a - e.x0) * (e.x1 - e.x0) + (y - e.y0) * (e.y1 - e.y0)) + (b - a) * ((c - e.x0) * (e.x1 - e.x0) + (y - e.y0) * (e.y1 - e.y0)) := by grind
    unfold stadG at *
    generalize (a - e.x0) * (e.y1 - e.y0) - (y - e.y0) * (e.x1 - e.x0) = ka at *
    generalize (b - e.x0) * (e.y1 - e.y0) - (y - e.y0) * (e.x1 - e.x0) = kb at *
    generalize (c - e.x0) * (e.y1 - e.y0) - (y - e.y0) * (e.x1 - e.x0) = kc at *
    generalize (a - e.x0) * (e.x1 - e.x0) + (y - e.y0) * (e.y1 - e.y0) = ua at *
    generalize (b - e.x0) * (e.x1 - e.x0) + (y - e.y0) * (e.y1 - e.y0) = ub at *
    generalize (c - e.x0) * (e.x1 - e.x0) + (y - e.y0) * (e.y1 - e.y0) = uc at *
    generalize (e.x1 - e.x0) * (e.x1 - e.x0) + (e.y1 - e.y0) * (e.y1 - e.y0) = l at *
    generalize c - b = α at *
    generalize b - a = β at *
    have p1 : (α + β) * max (-ub) 0 ≤ α * max (-ua) 0 + β * max (-uc) 0 := by
      have m1 := Int.mul_le_mul_of_nonneg_left (show -ua ≤ max (-ua) 0 by omega) hα
      have m2 := Int.mul_le_mul_of_nonneg_left (show -uc ≤ max (-uc) 0 by omega) hβ
      have m3 := Int.mul_nonneg hα (show 0 ≤ max (-ua) 0 by omega)
      have m4 := Int.mul_nonneg hβ (show 0 ≤ max (-uc) 0 by omega)
      rcases Int.le_total ub 0 with h | h
      · rw [show max (-ub) 0 = -ub by omega, Int.mul_neg, u1]
        rw [Int.mul_neg] at m1 m2
        omega
      · rw [show max (-ub) 0 = 0 by omega, Int.mul_zero]
        omega
    have p2 : (α + β) * max (ub - l) 0 ≤ α * max (ua - l) 0 + β * max (uc - l) 0 := by
      have m1 := Int.mul_le_mul_of_nonneg_left (show ua - l ≤ max (ua - l) 0 by omega) hα
      have m2 := Int.mul_le_mul_of_nonneg_left (show uc - l ≤ max (uc - l) 0 by omega) hβ
      have m3 := Int.mul_nonneg hα (show 0 ≤ max (ua - l) 0 by omega)
      have m4 := Int.mul_nonneg hβ (show 0 ≤ max (uc - l) 0 by omega)
      rcases Int.le_total l ub with h | h
      · rw [show max (ub - l) 0 = ub - l by omega, Int.mul_sub, u1, Int.add_mul]
        rw [Int.mul_sub] at m1 m2
        omega
      · rw [show max (ub - l) 0 = 0 by omega, Int.mul_zero]
        omega
    have s1 := mean_sqE hα hβ k1
    have s2 := mean_sq hα hβ (Int.mul_nonneg (by omega) (by omega)) p1
    have s3 := mean_sq hα hβ (Int.mul_nonneg (by omega) (by omega)) p2
    generalize max (-ua) 0 = na at *
    generalize max (-ub) 0 = nb at *
    generalize max (-uc) 0 = nc at *
    generalize max (ua - l) 0 = qa at *
    generalize max (ub - l) 0 = qb at *
    generalize max (uc - l) 0 = qc at *
    have t1 := Int.mul_le_mul_of_nonneg_left ha hα
    have t2 := Int.mul_le_mul_of_nonneg_left hc hβ
    have t3 : (α + β) * (α * (4 * (ka * ka + na * na + qa * qa)) + β * (4 * (kc * kc + nc * nc + qc * qc))) ≤ (α + β) * (α * C + β * C) := Int.mul_le_mul_of_nonneg_left (by omega) (by omega)
    have t4 : (α + β) * (α + β) * (4 * (kb * kb + nb * nb + qb * qb)) ≤ (α + β) * (α + β) * C := by
      have e1 : (α + β) * (α + β) * (4 * (kb * kb + nb * nb + qb * qb)) = 4 * ((α + β) * kb * ((α + β) * kb)) + 4 * ((α + β) * nb * ((α + β) * nb)) + 4 * ((α + β) * qb * ((α + β) * qb)) := by grind
      have e2 : (α + β) * (α * (4 * (ka * ka + na * na + qa * qa)) + β * (4 * (kc * kc + nc * nc + qc * qc))) = 4 * ((α + β) * (α * (ka * ka) + β * (kc * kc))) + 4 * ((α + β) * (α * (na * na) + β * (nc * nc))) + 4 * ((α + β) * (α * (qa * qa) + β * (qc * qc))) := by grind
      have e3 : (α + β) * (α * C + β * C) = (α + β) * (α + β) * C := by grind
      omega
    exact Int.le_of_mul_le_mul_left t4 (Int.mul_pos hD hD)
end Go.Proofs.Ytfnolaoohmecbaa
