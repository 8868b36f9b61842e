/- Plain laws on moved regions: no program in sight. -/
import Derived.Test.YtjgnbmgdnfldeaaPixC
namespace Go.Proofs.Ytjgnbmgdnfldeaa

def sumN (f : Nat → Nat) : Nat → Nat
  | 0 => 0
  | n + 1 => sumN f n + f n
theorem sumN_congr {f g : Nat → Nat} : ∀ {n : Nat}, (∀ i, i < n → f i = g i) → sumN f n = sumN g n
  | 0, _ => rfl
  | n + 1, h => by simp only [sumN, sumN_congr (n := n) fun i hi => h i (by omega), h n (by omega)]
theorem sumN_low (f : Nat → Nat) (k : Nat) : ∀ n, sumN (fun i => if i < k then f i else 0) (k + n) = sumN f k
  | 0 => sumN_congr fun i hi => by simp at hi; simp [hi]
  | n + 1 => by
    rw [← Nat.add_assoc]
    simp only [sumN, sumN_low f k n]
    rw [if_neg (by omega), Nat.add_zero]
theorem sumN_up (f : Nat → Nat) (u : Nat) : ∀ n, sumN (fun i => if u ≤ i then f (i - u) else 0) n = sumN f (n - u)
  | 0 => by simp [sumN]
  | n + 1 => by
    simp only [sumN, sumN_up f u n]
    by_cases h : u ≤ n
    · rw [if_pos h, show n + 1 - u = (n - u) + 1 by omega]; rfl
    · rw [if_neg h, show n + 1 - u = n - u by omega]; rfl
theorem sumN_shift (f : Nat → Nat) (u n : Nat) : sumN (fun i => if u ≤ i then f (i - u) else 0) n = sumN (fun i => if i + u < n then f i else 0) n := by
  rw [sumN_up]
  have := sumN_low f (n - u) (n - (n - u))
  rw [show n - u + (n - (n - u)) = n by omega] at this
  rw [← this]
  refine sumN_congr fun i hi => ?_
  have : i < n - u ↔ i + u < n := by omega
  simp [this]
theorem sumN_move (f : Nat → Nat) (U : Int) (n : Nat) : sumN (fun i => if 0 ≤ (i : Int) - U ∧ (i : Int) - U < n then f ((i : Int) - U).toNat else 0) n = sumN (fun i => if -U ≤ (i : Int) ∧ (i : Int) < n - U then f i else 0) n := by
  by_cases hU : 0 ≤ U
  · obtain ⟨u, rfl⟩ := Int.eq_ofNat_of_zero_le hU
    refine ((sumN_congr fun i hi => ?_).trans (sumN_shift f u n)).trans (sumN_congr fun i hi => ?_)
    · by_cases h : u ≤ i
      · rw [if_pos h, if_pos (by omega), show ((i : Int) - u).toNat = i - u by omega]
      · rw [if_neg h, if_neg (by omega)]
    · by_cases h : i + u < n
      · rw [if_pos h, if_pos (by omega)]
      · rw [if_neg h, if_neg (by omega)]
  · obtain ⟨u, hu⟩ := Int.eq_ofNat_of_zero_le (show 0 ≤ -U by omega)
    have hU' : U = -(u : Int) := by omega
    subst hU'
    refine ((sumN_congr fun i hi => ?_).trans (sumN_shift (fun i => f (i + u)) u n).symm).trans (sumN_congr fun i hi => ?_)
    · by_cases h : i + u < n
      · rw [if_pos h, if_pos (by omega), show ((i : Int) - -(u : Int)).toNat = i + u by omega]
      · rw [if_neg h, if_neg (by omega)]
    · by_cases h : u ≤ i
      · rw [if_pos h, if_pos (by omega), show i - u + u = i by omega]
      · rw [if_neg h, if_neg (by omega)]
theorem countTo_sum (p : Nat → Bool) : ∀ n, countTo p n = sumN (fun i => if p i then 1 else 0) n
  | 0 => rfl
  | n + 1 => by
    simp only [countTo, sumN, ← countTo_sum p n]
theorem pixCount_sum (W : Nat) (q : Nat → Nat → Bool) : ∀ n, pixCount W q n = sumN (fun j => countTo (q j) W) n
  | 0 => rfl
  | n + 1 => by simp only [pixCount, sumN, pixCount_sum W q n]
theorem countTo_if (c : Prop) [Decidable c] (p : Nat → Bool) (n : Nat) : countTo (fun i => decide c && p i) n = if c then countTo p n else 0 := by
  by_cases h : c
  · simp [h]
  · rw [if_neg h]
    exact countTo_none fun _ _ => by simp [h]

def boxQ (q : Nat → Nat → Bool) (x0 y0 x1 y1 : Int) (j i : Nat) : Bool := q j i && (decide (y0 ≤ (j : Int)) && (decide ((j : Int) < y1) && (decide (x0 ≤ (i : Int)) && decide ((i : Int) < x1))))
theorem count_moved (W H : Nat) (q : Nat → Nat → Bool) (U V : Int) : pixCount W (shQ W H q U V) H = pixCount W (boxQ q (-U) (-V) (W - U) (H - V)) H := by
  have col : ∀ j', countTo (fun i => decide (0 ≤ (i : Int) - U ∧ (i : Int) - U < W) && q j' ((i : Int) - U).toNat) W = countTo (fun i => decide (-U ≤ (i : Int) ∧ (i : Int) < W - U) && q j' i) W := by
    intro j'
    have := sumN_move (fun i => if q j' i then 1 else 0) U W
    rw [countTo_sum, countTo_sum]
    refine ((sumN_congr fun i _ => ?_).trans this).trans (sumN_congr fun i _ => ?_)
    · by_cases h : 0 ≤ (i : Int) - U ∧ (i : Int) - U < W
      · simp only [h, and_self, decide_true, Bool.true_and, if_true]
      · rw [if_neg h, decide_eq_false h]; rfl
    · by_cases h : -U ≤ (i : Int) ∧ (i : Int) < W - U
      · rw [if_pos h]; simp [h]
      · rw [if_neg h, decide_eq_false h]; rfl
  rw [pixCount_sum, pixCount_sum]
  refine ((sumN_congr fun j _ => ?_).trans (sumN_move (fun j' => countTo (fun i => decide (0 ≤ (i : Int) - U ∧ (i : Int) - U < W) && q j' ((i : Int) - U).toNat) W) V H)).trans (sumN_congr fun j _ => ?_)
  · rw [← countTo_if]
    refine countTo_congr fun i _ => ?_
    unfold shQ atPix
    rw [Bool.eq_iff_iff]
    simp only [Bool.and_eq_true, decide_eq_true_eq]
    exact ⟨fun ⟨a, b, c, d, e⟩ => ⟨⟨c, d⟩, ⟨a, b⟩, e⟩, fun ⟨⟨c, d⟩, ⟨a, b⟩, e⟩ => ⟨a, b, c, d, e⟩⟩
  · rw [col j, ← countTo_if]
    refine countTo_congr fun i _ => ?_
    unfold boxQ
    rw [Bool.eq_iff_iff]
    simp only [Bool.and_eq_true, decide_eq_true_eq]
    exact ⟨fun ⟨⟨a, b⟩, ⟨c, d⟩, e⟩ => ⟨e, a, b, c, d⟩, fun ⟨e, a, b, c, d⟩ => ⟨⟨a, b⟩, ⟨c, d⟩, e⟩⟩
theorem atPix_in {W H : Nat} (p : Nat → Nat → Bool) {j i : Nat} (hj : j < H) (hi : i < W) : atPix W H p i j = p j i := by
  unfold atPix
  have h1 : decide ((i : Int) < W) = true := by simp; omega
  have h2 : decide ((j : Int) < H) = true := by simp; omega
  rw [h1, h2]; simp
theorem back_moved {W H : Nat} (q : Nat → Nat → Bool) (U V : Int) (j i : Nat) (hj : j < H) (hi : i < W) : shQ W H (shQ W H q U V) (-U) (-V) j i = boxQ q (-U) (-V) (W - U) (H - V) j i := by
  unfold boxQ
  show atPix W H (shQ W H q U V) ((i : Int) - -U) ((j : Int) - -V) = _
  by_cases h : (0 ≤ (i : Int) - -U ∧ (i : Int) - -U < W) ∧ (0 ≤ (j : Int) - -V ∧ (j : Int) - -V < H)
  · obtain ⟨⟨h1, h2⟩, h3, h4⟩ := h
    have e1 : decide (-V ≤ (j : Int)) = true := by simp; omega
    have e2 : decide ((j : Int) < H - V) = true := by simp; omega
    have e3 : decide (-U ≤ (i : Int)) = true := by simp; omega
    have e4 : decide ((i : Int) < W - U) = true := by simp; omega
    rw [e1, e2, e3, e4]
    simp only [atPix, h1, h2, h3, h4, decide_true, Bool.true_and, Bool.and_true]
    show atPix W H q (((((i : Int) - -U).toNat : Nat) : Int) - U) (((((j : Int) - -V).toNat : Nat) : Int) - V) = _
    rw [show (((((i : Int) - -U).toNat : Nat) : Int) - U) = (i : Int) by omega, show (((((j : Int) - -V).toNat : Nat) : Int) - V) = (j : Int) by omega]
    exact atPix_in q hj hi
  · have : atPix W H (shQ W H q U V) ((i : Int) - -U) ((j : Int) - -V) = false := by
      rw [Bool.eq_false_iff]
      intro e
      simp only [atPix, Bool.and_eq_true, decide_eq_true_eq] at e
      exact h ⟨⟨e.1, e.2.1⟩, e.2.2.1, e.2.2.2.1⟩
    rw [this]
    symm
    rw [Bool.eq_false_iff]
    intro e
    simp only [Bool.and_eq_true, decide_eq_true_eq] at e
    exact h (by omega)
end Go.Proofs.Ytjgnbmgdnfldeaa
