/- Plain laws: points beside a path. -/
import Derived.Test.YtmoabhfpibkcnaaBwlM
import Derived.Test.YtmoabhfpibkcnaaShM
import Derived.Test.YtmoabhfpibkcnaaBoxM
namespace Go.Proofs.Ytmoabhfpibkcnaa
/-! p + q times the root of d, where it isn't negative -/
def Nn (d p q : Int) : Prop := 0 ≤ sgR p q d
theorem sq_le {x y : Int} (hy : 0 ≤ y) (h : x * x ≤ y * y) : x ≤ y := by
  rcases (by omega : x ≤ y ∨ y < x) with g | g
  · exact g
  · have h1 := Int.mul_le_mul_of_nonneg_right (show y + 1 ≤ x by omega) (show 0 ≤ x by omega)
    have h2 := Int.mul_le_mul_of_nonneg_left (show y + 1 ≤ x by omega) hy
    have e1 : (y + 1) * x = y * x + x := by grind
    have e2 : y * (y + 1) = y * y + y := by grind
    omega
theorem le_mul4 {a b c d : Int} (ha : 0 ≤ a) (_ : 0 ≤ d) (h1 : a ≤ b) (h2 : c ≤ d) (hc : 0 ≤ c) : a * c ≤ b * d := Int.mul_le_mul h1 h2 hc (by omega)
theorem sq_nonneg' (u : Int) : 0 ≤ u * u := by
  rcases (by omega : 0 ≤ u ∨ u ≤ 0) with g | g
  · exact Int.mul_nonneg g g
  · exact Int.mul_nonneg_of_nonpos_of_nonpos g g
/-- u √d ≤ P, v √d ≤ R: u v d ≤ P R -/
theorem cross1 {d u v P R : Int} (hd : 0 ≤ d) (hP : 0 ≤ P) (hR : 0 ≤ R) (h1 : u * u * d ≤ P * P) (h2 : v * v * d ≤ R * R) : u * v * d ≤ P * R := by
  refine sq_le (Int.mul_nonneg hP hR) ?_
  have h := le_mul4 (Int.mul_nonneg (sq_nonneg' u) hd) (sq_nonneg' R) h1 h2 (Int.mul_nonneg (sq_nonneg' v) hd)
  have e1 : u * v * d * (u * v * d) = u * u * d * (v * v * d) := by grind
  have e2 : P * R * (P * R) = P * P * (R * R) := by grind
  rw [e1, e2]; exact h
/-- P ≤ u √d, R ≤ v √d: P R ≤ u v d -/
theorem cross2 {d u v P R : Int} (hd : 0 ≤ d) (hu : 0 ≤ u) (hv : 0 ≤ v) (hP : 0 ≤ P) (hR : 0 ≤ R) (h1 : P * P ≤ u * u * d) (h2 : R * R ≤ v * v * d) : P * R ≤ u * v * d := by
  refine sq_le (Int.mul_nonneg (Int.mul_nonneg hu hv) hd) ?_
  have h := le_mul4 (Int.mul_nonneg hP hP) (Int.mul_nonneg (Int.mul_nonneg hv hv) hd) h1 h2 (Int.mul_nonneg hR hR)
  have e1 : u * v * d * (u * v * d) = u * u * d * (v * v * d) := by grind
  have e2 : P * R * (P * R) = P * P * (R * R) := by grind
  rw [e1, e2]; exact h
/-- R ≤ v √d, u √d ≤ P: R u ≤ v P -/
theorem cross3 {d u v P R : Int} (hd : 0 < d) (hu : 0 ≤ u) (hv : 0 ≤ v) (hP : 0 ≤ P) (hR : 0 ≤ R) (h1 : R * R ≤ v * v * d) (h2 : u * u * d ≤ P * P) : R * u ≤ v * P := by
  refine sq_le (Int.mul_nonneg hv hP) ?_
  refine Int.le_of_mul_le_mul_right ?_ hd
  have h := le_mul4 (Int.mul_nonneg hR hR) (Int.mul_nonneg hP hP) h1 h2 (Int.mul_nonneg (Int.mul_nonneg hu hu) (by omega))
  have e1 : R * u * (R * u) * d = R * R * (u * u * d) := by grind
  have e2 : v * P * (v * P) * d = v * v * d * (P * P) := by grind
  rw [e1, e2]; exact h

theorem Nn.iff {d p q : Int} (hd : 0 < d) : Nn d p q ↔ ((0 ≤ p ∧ 0 ≤ q) ∨ (0 < p ∧ q < 0 ∧ q * q * d ≤ p * p) ∨ (p < 0 ∧ 0 < q ∧ p * p ≤ q * q * d)) := by
  unfold Nn
  rw [sgR_nn (by omega)]
  constructor
  · rintro (⟨h1, h2⟩ | ⟨h1, h2, _, h3⟩ | ⟨h1, h2, _, h3⟩)
    · exact .inl ⟨h1, by omega⟩
    · exact .inr (.inl ⟨h1, h2, h3⟩)
    · exact .inr (.inr ⟨h1, h2, h3⟩)
  · rintro (⟨h1, h2⟩ | ⟨h1, h2, h3⟩ | ⟨h1, h2, h3⟩)
    · exact .inl ⟨h1, .inl h2⟩
    · exact .inr (.inl ⟨h1, h2, hd, h3⟩)
    · exact .inr (.inr ⟨h1, h2, hd, h3⟩)
theorem Nn.iff0 {p q : Int} : Nn 0 p q ↔ 0 ≤ p := by
  unfold Nn
  rw [sgR_nn (by omega)]
  constructor
  · rintro (⟨h1, h2⟩ | ⟨h1, h2, h3, _⟩ | ⟨h1, h2, h3, _⟩) <;> omega
  · intro h; exact .inl ⟨h, .inr rfl⟩
theorem Nn.int {d p : Int} (hd : 0 ≤ d) (hp : 0 ≤ p) : Nn d p 0 := by
  unfold Nn
  rw [sgR_nn hd]
  exact .inl ⟨hp, .inl (by omega)⟩
theorem Nn.int' {d p : Int} (hd : 0 ≤ d) (h : Nn d p 0) : 0 ≤ p := by
  unfold Nn at h
  rw [sgR_nn hd] at h
  omega

/-- one is below zero by its root, one by its number: their sum -/
theorem Nn.addBC {d p u R s : Int} (hd : 0 < d) (hp : 0 < p) (hu : 0 < u) (h1 : u * u * d ≤ p * p) (hR : 0 < R) (hs : 0 < s) (h2 : R * R ≤ s * s * d) : Nn d (p - R) (s - u) := by
  rw [Nn.iff hd]
  have k := cross3 hd (by omega) (by omega) (by omega) (by omega) h2 h1
  rcases (by omega : (R ≤ p ∧ u ≤ s) ∨ (R < p ∧ s < u) ∨ (p < R ∧ u < s) ∨ (p = R ∧ s < u) ∨ (p < R ∧ s ≤ u)) with ⟨g1, g2⟩ | ⟨g1, g2⟩ | ⟨g1, g2⟩ | ⟨g1, g2⟩ | ⟨g1, g2⟩
  · exact .inl ⟨by omega, by omega⟩
  · refine .inr (.inl ⟨by omega, by omega, ?_⟩)
    -- (u - s) p ≤ u (p - R)
    have k1 : (u - s) * p ≤ u * (p - R) := by
      have e1 : (u - s) * p = u * p - s * p := by grind
      have e2 : u * (p - R) = u * p - R * u := by grind
      omega
    have k2 := le_mul4 (Int.mul_nonneg (show 0 ≤ u - s by omega) (show 0 ≤ p by omega)) (Int.mul_nonneg (show 0 ≤ u by omega) (show 0 ≤ p - R by omega)) k1 k1 (Int.mul_nonneg (show 0 ≤ u - s by omega) (show 0 ≤ p by omega))
    have k3 := Int.mul_le_mul_of_nonneg_right k2 (show 0 ≤ d by omega)
    have k4 := Int.mul_le_mul_of_nonneg_right h1 (Int.mul_nonneg (show 0 ≤ p - R by omega) (show 0 ≤ p - R by omega))
    refine Int.le_of_mul_le_mul_right ?_ (Int.mul_pos hp hp)
    have e1 : (s - u) * (s - u) * d * (p * p) = (u - s) * p * ((u - s) * p) * d := by grind
    have e2 : u * (p - R) * (u * (p - R)) * d = u * u * d * ((p - R) * (p - R)) := by grind
    have e3 : (p - R) * (p - R) * (p * p) = p * p * ((p - R) * (p - R)) := by grind
    rw [e1, e3]
    omega
  · refine .inr (.inr ⟨by omega, by omega, ?_⟩)
    -- s (R - p) ≤ (s - u) R
    have k1 : s * (R - p) ≤ (s - u) * R := by
      have e1 : s * (R - p) = s * R - s * p := by grind
      have e2 : (s - u) * R = s * R - R * u := by grind
      omega
    have k2 := le_mul4 (Int.mul_nonneg (show 0 ≤ s by omega) (show 0 ≤ R - p by omega)) (Int.mul_nonneg (show 0 ≤ s - u by omega) (show 0 ≤ R by omega)) k1 k1 (Int.mul_nonneg (show 0 ≤ s by omega) (show 0 ≤ R - p by omega))
    have k4 := Int.mul_le_mul_of_nonneg_right h2 (Int.mul_nonneg (show 0 ≤ s - u by omega) (show 0 ≤ s - u by omega))
    refine Int.le_of_mul_le_mul_right ?_ (Int.mul_pos hs hs)
    have e1 : (p - R) * (p - R) * (s * s) = s * (R - p) * (s * (R - p)) := by grind
    have e2 : (s - u) * R * ((s - u) * R) = R * R * ((s - u) * (s - u)) := by grind
    have e3 : (s - u) * (s - u) * d * (s * s) = s * s * d * ((s - u) * (s - u)) := by grind
    rw [e1, e3]
    omega
  · subst g1
    have := Int.mul_lt_mul_of_pos_right g2 hp
    have e : p * u = u * p := Int.mul_comm _ _
    omega
  · have := Int.mul_lt_mul_of_pos_right g1 hu
    have := Int.mul_le_mul_of_nonneg_right g2 (show 0 ≤ p by omega)
    have e : p * u = u * p := Int.mul_comm _ _
    omega
theorem Nn.add {d p q r s : Int} (hd : 0 ≤ d) (h : Nn d p q) (k : Nn d r s) : Nn d (p + r) (q + s) := by
  rcases (by omega : d = 0 ∨ 0 < d) with h0 | hd
  · subst h0; rw [Nn.iff0] at *; omega
  -- one that isn't negative in both
  have hA : ∀ {p q r s : Int}, 0 ≤ p → 0 ≤ q → Nn d r s → Nn d (p + r) (q + s) := by
    intro p q r s hp hq k
    rw [Nn.iff hd] at k ⊢
    rcases k with ⟨k1, k2⟩ | ⟨k1, k2, k3⟩ | ⟨k1, k2, k3⟩
    · exact .inl ⟨by omega, by omega⟩
    · rcases (by omega : 0 ≤ q + s ∨ q + s < 0) with g | g
      · exact .inl ⟨by omega, g⟩
      · refine .inr (.inl ⟨by omega, g, ?_⟩)
        have j1 := Int.mul_le_mul_of_nonneg_right (sq_anti (a := s) (b := q + s) (by omega) (by omega)) (show 0 ≤ d by omega)
        have j2 := sq_mono (a := r) (b := p + r) (by omega) (by omega)
        omega
    · rcases (by omega : 0 ≤ p + r ∨ p + r < 0) with g | g
      · exact .inl ⟨g, by omega⟩
      · refine .inr (.inr ⟨g, by omega, ?_⟩)
        have j1 := Int.mul_le_mul_of_nonneg_right (sq_mono (a := s) (b := q + s) (by omega) (by omega)) (show 0 ≤ d by omega)
        have j2 := sq_anti (a := r) (b := p + r) (by omega) (by omega)
        omega
  have h' := h
  have k' := k
  rw [Nn.iff hd] at h k
  rcases h with ⟨h1, h2⟩ | ⟨h1, h2, h3⟩ | ⟨h1, h2, h3⟩
  · exact hA h1 h2 k'
  · rcases k with ⟨k1, k2⟩ | ⟨k1, k2, k3⟩ | ⟨k1, k2, k3⟩
    · rw [Int.add_comm p, Int.add_comm q]; exact hA k1 k2 h'
    · rw [Nn.iff hd]
      refine .inr (.inl ⟨by omega, by omega, ?_⟩)
      have c := cross1 (u := q) (v := s) (by omega) (show 0 ≤ p by omega) (show 0 ≤ r by omega) h3 k3
      have e1 : (q + s) * (q + s) * d = q * q * d + 2 * (q * s * d) + s * s * d := by grind
      have e2 : (p + r) * (p + r) = p * p + 2 * (p * r) + r * r := by grind
      omega
    · have := Nn.addBC (u := -q) (R := -r) hd h1 (by omega) (by rw [Int.neg_mul_neg]; exact h3) (by omega) k2 (by rw [Int.neg_mul_neg]; exact k3)
      rwa [show p - -r = p + r by omega, show s - -q = q + s by omega] at this
  · rcases k with ⟨k1, k2⟩ | ⟨k1, k2, k3⟩ | ⟨k1, k2, k3⟩
    · rw [Int.add_comm p, Int.add_comm q]; exact hA k1 k2 h'
    · have := Nn.addBC (u := -s) (R := -p) hd k1 (by omega) (by rw [Int.neg_mul_neg]; exact k3) (by omega) h2 (by rw [Int.neg_mul_neg]; exact h3)
      rwa [show r - -p = p + r by omega, show q - -s = q + s by omega] at this
    · rw [Nn.iff hd]
      refine .inr (.inr ⟨by omega, by omega, ?_⟩)
      have c := cross2 (P := -p) (R := -r) (u := q) (v := s) (by omega) (by omega) (by omega) (by omega) (by omega) (by rw [Int.neg_mul_neg]; exact h3) (by rw [Int.neg_mul_neg]; exact k3)
      rw [Int.neg_mul_neg] at c
      have e1 : (q + s) * (q + s) * d = q * q * d + 2 * (q * s * d) + s * s * d := by grind
      have e2 : (p + r) * (p + r) = p * p + 2 * (p * r) + r * r := by grind
      omega
theorem norm_mul (d p q r s : Int) : (p * r + q * s * d) * (p * r + q * s * d) - (p * s + q * r) * (p * s + q * r) * d = (p * p - q * q * d) * (r * r - s * s * d) := by grind
theorem sq_zero {x : Int} (h : x * x ≤ 0) : x = 0 := by
  rcases (by omega : x < 0 ∨ x = 0 ∨ 0 < x) with g | g | g
  · have := Int.mul_pos_of_neg_of_neg g g; omega
  · exact g
  · have := Int.mul_pos g g; omega
theorem sqd_zero {x d : Int} (hd : 0 < d) (h : x * x * d ≤ 0) : x = 0 := by
  refine sq_zero ?_
  rcases (by omega : x * x ≤ 0 ∨ 0 < x * x) with g | g
  · exact g
  · have := Int.mul_pos g hd; omega
theorem Nn.mul {d p q r s : Int} (hd : 0 ≤ d) (h : Nn d p q) (k : Nn d r s) : Nn d (p * r + q * s * d) (p * s + q * r) := by
  rcases (by omega : d = 0 ∨ 0 < d) with h0 | hd
  · subst h0; rw [Nn.iff0] at *; rw [Int.mul_zero, Int.add_zero]; exact Int.mul_nonneg h k
  have hA : ∀ {p q r s : Int}, 0 ≤ p → 0 ≤ q → Nn d r s → Nn d (p * r + q * s * d) (p * s + q * r) := by
    intro p q r s hp hq k
    have hn := norm_mul d p q r s
    rw [Nn.iff hd] at k ⊢
    rcases k with ⟨k1, k2⟩ | ⟨k1, k2, k3⟩ | ⟨k1, k2, k3⟩
    · exact .inl ⟨Int.add_nonneg (Int.mul_nonneg hp k1) (Int.mul_nonneg (Int.mul_nonneg hq k2) (by omega)), Int.add_nonneg (Int.mul_nonneg hp k2) (Int.mul_nonneg hq k1)⟩
    · rcases (by omega : q * q * d ≤ p * p ∨ p * p < q * q * d) with g | g
      · have c := cross1 (u := q) (v := -s) (by omega) hp (show 0 ≤ r by omega) g (by rw [Int.neg_mul_neg]; exact k3)
        have e : q * -s * d = -(q * s * d) := by grind
        have m := Int.mul_nonneg (show 0 ≤ p * p - q * q * d by omega) (show 0 ≤ r * r - s * s * d by omega)
        rcases (by omega : 0 ≤ p * s + q * r ∨ p * s + q * r < 0) with z | z
        · exact .inl ⟨by omega, z⟩
        · refine .inr (.inl ⟨?_, z, by omega⟩)
          rcases (by omega : p * r + q * s * d = 0 ∨ 0 < p * r + q * s * d) with y | y
          · rw [y] at hn
            have := sqd_zero (x := p * s + q * r) hd (by omega)
            omega
          · exact y
      · have c := cross3 (R := p) (v := q) (u := -s) (P := r) hd (by omega) hq (by omega) hp (by omega) (by rw [Int.neg_mul_neg]; exact k3)
        have e : p * -s = -(p * s) := by grind
        have m := Int.mul_nonneg (show 0 ≤ q * q * d - p * p by omega) (show 0 ≤ r * r - s * s * d by omega)
        have e2 : (q * q * d - p * p) * (r * r - s * s * d) = -((p * p - q * q * d) * (r * r - s * s * d)) := by grind
        rcases (by omega : 0 ≤ p * r + q * s * d ∨ p * r + q * s * d < 0) with z | z
        · exact .inl ⟨z, by omega⟩
        · refine .inr (.inr ⟨z, ?_, by omega⟩)
          rcases (by omega : p * s + q * r = 0 ∨ 0 < p * s + q * r) with y | y
          · rw [y] at hn
            have := sq_zero (x := p * r + q * s * d) (by omega)
            omega
          · exact y
    · rcases (by omega : q * q * d ≤ p * p ∨ p * p < q * q * d) with g | g
      · have c := cross3 (R := -r) (v := s) (u := q) (P := p) hd hq (by omega) hp (by omega) (by rw [Int.neg_mul_neg]; exact k3) g
        have e : -r * q = -(q * r) := by grind
        have e3 : s * p = p * s := by grind
        have m := Int.mul_nonneg (show 0 ≤ p * p - q * q * d by omega) (show 0 ≤ s * s * d - r * r by omega)
        have e2 : (p * p - q * q * d) * (s * s * d - r * r) = -((p * p - q * q * d) * (r * r - s * s * d)) := by grind
        rcases (by omega : 0 ≤ p * r + q * s * d ∨ p * r + q * s * d < 0) with z | z
        · exact .inl ⟨z, by omega⟩
        · refine .inr (.inr ⟨z, ?_, by omega⟩)
          rcases (by omega : p * s + q * r = 0 ∨ 0 < p * s + q * r) with y | y
          · rw [y] at hn
            have := sq_zero (x := p * r + q * s * d) (by omega)
            omega
          · omega
      · have c := cross2 (d := d) (P := p) (R := -r) (u := q) (v := s) (by omega) hq (by omega) hp (by omega) (by omega) (by rw [Int.neg_mul_neg]; exact k3)
        have e : p * -r = -(p * r) := by grind
        have m := Int.mul_nonneg (show 0 ≤ q * q * d - p * p by omega) (show 0 ≤ s * s * d - r * r by omega)
        have e2 : (q * q * d - p * p) * (s * s * d - r * r) = (p * p - q * q * d) * (r * r - s * s * d) := by grind
        rcases (by omega : 0 ≤ p * s + q * r ∨ p * s + q * r < 0) with z | z
        · exact .inl ⟨by omega, z⟩
        · refine .inr (.inl ⟨?_, z, by omega⟩)
          rcases (by omega : p * r + q * s * d = 0 ∨ 0 < p * r + q * s * d) with y | y
          · rw [y] at hn
            have := sqd_zero (x := p * s + q * r) hd (by omega)
            omega
          · omega
  have hBC : ∀ {p q r s : Int}, 0 < p → q < 0 → q * q * d ≤ p * p → r < 0 → 0 < s → r * r ≤ s * s * d → Nn d (p * r + q * s * d) (p * s + q * r) := by
    intro p q r s h1 h2 h3 k1 k2 k3
    have hn := norm_mul d p q r s
    have m := Int.mul_nonneg (show 0 ≤ p * p - q * q * d by omega) (show 0 ≤ s * s * d - r * r by omega)
    have e2 : (p * p - q * q * d) * (s * s * d - r * r) = -((p * p - q * q * d) * (r * r - s * s * d)) := by grind
    have j1 := Int.mul_neg_of_pos_of_neg h1 k1
    have j2 := Int.mul_neg_of_neg_of_pos (Int.mul_neg_of_neg_of_pos h2 k2) hd
    have j3 := Int.mul_pos h1 k2
    have j4 := Int.mul_pos_of_neg_of_neg h2 k1
    rw [Nn.iff hd]
    exact .inr (.inr ⟨by omega, by omega, by omega⟩)
  have h' := h
  have k' := k
  have hn := norm_mul d p q r s
  have ec1 : r * p + s * q * d = p * r + q * s * d := by grind
  have ec2 : r * q + s * p = p * s + q * r := by grind
  rw [Nn.iff hd] at h k
  rcases h with ⟨h1, h2⟩ | ⟨h1, h2, h3⟩ | ⟨h1, h2, h3⟩
  · exact hA h1 h2 k'
  · rcases k with ⟨k1, k2⟩ | ⟨k1, k2, k3⟩ | ⟨k1, k2, k3⟩
    · rw [← ec1, ← ec2]; exact hA k1 k2 h'
    · have m := Int.mul_nonneg (show 0 ≤ p * p - q * q * d by omega) (show 0 ≤ r * r - s * s * d by omega)
      have j1 := Int.mul_pos h1 k1
      have j2 := Int.mul_pos (Int.mul_pos_of_neg_of_neg h2 k2) hd
      have j3 := Int.mul_neg_of_pos_of_neg h1 k2
      have j4 := Int.mul_neg_of_neg_of_pos h2 k1
      rw [Nn.iff hd]
      exact .inr (.inl ⟨by omega, by omega, by omega⟩)
    · exact hBC h1 h2 h3 k1 k2 k3
  · rcases k with ⟨k1, k2⟩ | ⟨k1, k2, k3⟩ | ⟨k1, k2, k3⟩
    · rw [← ec1, ← ec2]; exact hA k1 k2 h'
    · rw [← ec1, ← ec2]; exact hBC k1 k2 k3 h1 h2 h3
    · have m := Int.mul_nonneg (show 0 ≤ q * q * d - p * p by omega) (show 0 ≤ s * s * d - r * r by omega)
      have e2 : (q * q * d - p * p) * (s * s * d - r * r) = (p * p - q * q * d) * (r * r - s * s * d) := by grind
      have j1 := Int.mul_pos_of_neg_of_neg h1 k1
      have j2 := Int.mul_pos (Int.mul_pos h2 k2) hd
      have j3 := Int.mul_neg_of_neg_of_pos h1 k2
      have j4 := Int.mul_neg_of_pos_of_neg h2 k1
      rw [Nn.iff hd]
      exact .inr (.inl ⟨by omega, by omega, by omega⟩)
theorem Nn.strict {d p q m : Int} (hd : 0 ≤ d) (hm : 0 < m) (h : Nn d (p - m) q) : 0 < sgR p q d := by
  rcases (by omega : 0 < sgR p q d ∨ 0 ≤ -sgR p q d) with g | g
  · exact g
  · rw [← sgR_neg] at g
    have := Nn.add hd h g
    rw [show q + -q = 0 by omega] at this
    have := Nn.int' hd this
    omega
theorem Nn.upper {d p q : Int} (h : Nn d (-p) (-q)) : ¬ 0 < sgR p q d := by
  unfold Nn at h
  rw [sgR_neg] at h
  omega

/-! a bow lies among its points -/
theorem bern0 {d a b s C B A : Int} (hd : 0 ≤ d) (hs : s * s = 1) (h0 : Nn d (-b) s) (h1 : Nn d (a + b) (-s)) (hC : 0 ≤ C) (hB : 0 ≤ C + B) (hA : 0 ≤ C + 2 * B + A) : Nn d (oneP C a b d A B) (oneQ s a b A B) := by
  have k1 := Nn.mul hd (Nn.int hd hC) (Nn.mul hd h1 h1)
  have k2 := Nn.mul hd (Nn.int hd (show 0 ≤ 2 * (C + B) by omega)) (Nn.mul hd h0 h1)
  have k3 := Nn.mul hd (Nn.int hd hA) (Nn.mul hd h0 h0)
  have k := Nn.add hd (Nn.add hd k1 k2) k3
  have e1 : C * ((a + b) * (a + b) + -s * -s * d) + 0 * ((a + b) * -s + -s * (a + b)) * d + (2 * (C + B) * (-b * (a + b) + s * -s * d) + 0 * (-b * -s + s * (a + b)) * d) + ((C + 2 * B + A) * (-b * -b + s * s * d) + 0 * (-b * s + s * -b) * d) = oneP C a b d A B := by
    unfold oneP
    grind
  have e2 : C * ((a + b) * -s + -s * (a + b)) + 0 * ((a + b) * (a + b) + -s * -s * d) + (2 * (C + B) * (-b * -s + s * (a + b)) + 0 * (-b * (a + b) + s * -s * d)) + ((C + 2 * B + A) * (-b * s + s * -b) + 0 * (-b * -b + s * s * d)) = oneQ s a b A B := by
    unfold oneQ
    grind
  rw [← e1, ← e2]
  exact k
/-- where a root lies -/
def OneIn (s a b d : Int) : Prop := (0 < a → Nn d (-b) s ∧ Nn d (a + b) (-s)) ∧ (a < 0 → Nn d b (-s) ∧ Nn d (-a - b) s)
theorem OneIn.bern {s a b d C B A : Int} (hd : 0 ≤ d) (hs : s = 1 ∨ s = -1) (ha : a ≠ 0) (h : OneIn s a b d) (hC : 0 ≤ C) (hB : 0 ≤ C + B) (hA : 0 ≤ C + 2 * B + A) : Nn d (oneP C a b d A B) (oneQ s a b A B) := by
  have hss : s * s = 1 := by rcases hs with rfl | rfl <;> rfl
  rcases (by omega : 0 < a ∨ a < 0) with g | g
  · exact bern0 hd hss (h.1 g).1 (h.1 g).2 hC hB hA
  · have := bern0 (s := -s) (a := -a) (b := -b) hd (by rw [Int.neg_mul_neg]; exact hss) (by rw [Int.neg_neg]; exact (h.2 g).1) (by rw [Int.neg_neg]; exact (h.2 g).2) hC hB hA
    have e1 : oneP C (-a) (-b) d A B = oneP C a b d A B := by unfold oneP; grind
    have e2 : oneQ (-s) (-a) (-b) A B = oneQ s a b A B := by unfold oneQ; grind
    rwa [e1, e2] at this
theorem oneS_in {s x0 a b d ax bx : Int} (hs : s = 1 ∨ s = -1) : (oneS s x0 a b d ax bx = noSpt) ∨ (oneS s x0 a b d ax bx = ⟨s, oneP x0 a b d ax bx, oneQ s a b ax bx, d, a * a⟩ ∧ OneIn s a b d) := by
  unfold oneS
  split
  · exact .inl rfl
  · rename_i h
    refine .inr ⟨rfl, fun ha => ?_, fun ha => ?_⟩
    · have e : sideI a = 1 := by unfold sideI; rw [if_neg (by omega)]
      rw [e, Int.one_mul, Int.one_mul] at h
      have k := sgR_neg (-b - a) s d
      rw [show -(-b - a) = a + b by omega] at k
      unfold Nn
      rcases hs with rfl | rfl <;> omega
    · have e : sideI a = -1 := by unfold sideI; rw [if_pos ha]
      rw [e, Int.neg_one_mul, Int.neg_one_mul] at h
      have k := sgR_neg (-b) s d
      rw [Int.neg_neg] at k
      unfold Nn
      rw [show -a - b = -b - a by omega]
      rcases hs with rfl | rfl <;> omega
theorem oneP_sub (x0 x a b d ax bx : Int) : oneP x0 a b d ax bx - x * (a * a) = oneP (x0 - x) a b d ax bx := by unfold oneP; grind
theorem oneP_one (C a b d ax bx : Int) : oneP (C - 1) a b d ax bx = oneP C a b d ax bx - a * a := by unfold oneP; grind
theorem hit_no (x : Int) : hitT noSpt x = 0 := by unfold hitT noSpt; rw [if_neg (by simp)]
theorem mul_self_pos {a : Int} (ha : a ≠ 0) : 0 < a * a := by
  rcases (by omega : a < 0 ∨ 0 < a) with g | g
  · exact Int.mul_pos_of_neg_of_neg g g
  · exact Int.mul_pos g g
theorem one_left {s x0 a b d ax bx x : Int} (hd : 0 ≤ d) (hs : s = 1 ∨ s = -1) (ha : a ≠ 0) (h0 : x < x0) (h1 : x < x0 + bx) (h2 : x < x0 + 2 * bx + ax) : hitT (oneS s x0 a b d ax bx) x = (oneS s x0 a b d ax bx).turn := by
  rcases oneS_in (x0 := x0) (a := a) (b := b) (d := d) (ax := ax) (bx := bx) hs with e | ⟨e, k⟩
  · rw [e, hit_no]; rfl
  · rw [e]
    unfold hitT
    dsimp only
    have j := k.bern (C := x0 - x - 1) (B := bx) (A := ax) hd hs ha (by omega) (by omega) (by omega)
    rw [oneP_one] at j
    have := Nn.strict hd (mul_self_pos ha) j
    rw [oneP_sub, if_pos ⟨by omega, this⟩]
theorem one_right {s x0 a b d ax bx x : Int} (hd : 0 ≤ d) (hs : s = 1 ∨ s = -1) (ha : a ≠ 0) (h0 : x0 ≤ x) (h1 : x0 + bx ≤ x) (h2 : x0 + 2 * bx + ax ≤ x) : hitT (oneS s x0 a b d ax bx) x = 0 := by
  rcases oneS_in (x0 := x0) (a := a) (b := b) (d := d) (ax := ax) (bx := bx) hs with e | ⟨e, k⟩
  · rw [e, hit_no]
  · rw [e]
    unfold hitT
    dsimp only
    have j := k.bern (C := x - x0) (B := -bx) (A := -ax) hd hs ha (by omega) (by omega) (by omega)
    have e1 : oneP (x - x0) a b d (-ax) (-bx) = -oneP (x0 - x) a b d ax bx := by unfold oneP; grind
    have e2 : oneQ s a b (-ax) (-bx) = -oneQ s a b ax bx := by unfold oneQ; grind
    rw [e1, e2] at j
    rw [oneP_sub, if_neg fun g => Nn.upper j g.2]
theorem sgR_int (p : Int) : sgR p 0 0 = sgn p := by
  have h0 : sgn 0 = 0 := rfl
  rw [sgR_eq, h0, Int.mul_zero]
  (repeat' split) <;> omega
theorem ev_bern {b c C B A : Int} (h : (0 < b ∧ c ≤ 0 ∧ -c < 2 * b) ∨ (b < 0 ∧ 0 < c ∧ c ≤ -2 * b)) (hC : 0 ≤ C) (hB : 0 ≤ C + B) (hA : 0 ≤ C + 2 * B + A) : 0 ≤ evP b c A B C := by
  have hm : 0 ≤ -c * (2 * b + c) := by
    rcases h with h | h
    · exact Int.mul_nonneg (by omega) (by omega)
    · exact Int.mul_nonneg_of_nonpos_of_nonpos (by omega) (by omega)
  have k1 := Int.mul_nonneg hC (sq_nonneg' (2 * b + c))
  have k2 := Int.mul_nonneg hB hm
  have k3 := Int.mul_nonneg hA (sq_nonneg' c)
  have e : evP b c A B C = C * ((2 * b + c) * (2 * b + c)) + 2 * ((C + B) * (-c * (2 * b + c))) + (C + 2 * B + A) * (c * c) := by unfold evP; grind
  omega
theorem evP_sub (b c ax bx x0 x : Int) : evP b c ax bx x0 - x * (4 * b * b) = evP b c ax bx (x0 - x) := by unfold evP; grind
theorem evenS_in (b c ax bx x0 : Int) : evenS b c ax bx x0 = noSpt ∨ (((0 < b ∧ c ≤ 0 ∧ -c < 2 * b) ∨ (b < 0 ∧ 0 < c ∧ c ≤ -2 * b)) ∧ ∃ t, t ≠ 0 ∧ evenS b c ax bx x0 = ⟨t, evP b c ax bx x0, 0, 0, 4 * b * b⟩) := by
  unfold evenS
  split
  · rename_i h; exact .inr ⟨.inl h, 1, by omega, rfl⟩
  · split
    · rename_i h; exact .inr ⟨.inr h, -1, by omega, rfl⟩
    · exact .inl rfl
theorem even_left {b c ax bx x0 x : Int} (h0 : x < x0) (h1 : x < x0 + bx) (h2 : x < x0 + 2 * bx + ax) : hitT (evenS b c ax bx x0) x = (evenS b c ax bx x0).turn := by
  rcases evenS_in b c ax bx x0 with e | ⟨h, t, ht, e⟩
  · rw [e, hit_no]; rfl
  · rw [e]
    unfold hitT
    dsimp only
    have j := ev_bern h (C := x0 - x - 1) (B := bx) (A := ax) (by omega) (by omega) (by omega)
    have e1 : evP b c ax bx (x0 - x - 1) = evP b c ax bx (x0 - x) - 4 * (b * b) := by unfold evP; grind
    have := mul_self_pos (show b ≠ 0 by omega)
    have hp : 0 < sgn (evP b c ax bx (x0 - x)) := by
      rcases sgn_cases (evP b c ax bx (x0 - x)) with ⟨g, e⟩ | ⟨g, e⟩ | ⟨g, e⟩ <;> omega
    rw [evP_sub, sgR_int, if_pos ⟨ht, hp⟩]
theorem even_right {b c ax bx x0 x : Int} (h0 : x0 ≤ x) (h1 : x0 + bx ≤ x) (h2 : x0 + 2 * bx + ax ≤ x) : hitT (evenS b c ax bx x0) x = 0 := by
  rcases evenS_in b c ax bx x0 with e | ⟨h, t, ht, e⟩
  · rw [e, hit_no]
  · rw [e]
    unfold hitT
    dsimp only
    have j := ev_bern h (C := x - x0) (B := -bx) (A := -ax) (by omega) (by omega) (by omega)
    have e1 : evP b c (-ax) (-bx) (x - x0) = -evP b c ax bx (x0 - x) := by unfold evP; grind
    rw [evP_sub, sgR_int, if_neg]
    rintro ⟨_, g⟩
    unfold sgn at g
    rw [if_neg] at g
    · rw [if_neg (by omega)] at g; omega
    · intro k; rw [if_pos k] at g; omega
/-- where an edge is -/
def LeftOf (x : Int) (e : Edg) : Prop := x < e.x0 ∧ x < e.x1 ∧ (e.bent = true → x < e.cx)
def RightOf (x : Int) (e : Edg) : Prop := e.x0 ≤ x ∧ e.x1 ≤ x ∧ (e.bent = true → e.cx ≤ x)
def Above (y : Int) (e : Edg) : Prop := y < e.y0 ∧ y < e.y1 ∧ (e.bent = true → y < e.cy)
def Below' (y : Int) (e : Edg) : Prop := e.y0 ≤ y ∧ e.y1 ≤ y ∧ (e.bent = true → e.cy ≤ y)
theorem hitT_int (t p m x : Int) : hitT ⟨t, p, 0, 0, m⟩ x = if 0 < p - x * m then t else 0 := by
  unfold hitT
  dsimp only
  rw [sgR_int]
  unfold sgn
  (repeat' split) <;> omega
theorem hit_left {x y : Int} {e : Edg} (h : LeftOf x e) : hitT (spt1 e y) x + hitT (spt2 e y) x = (spt1 e y).turn + (spt2 e y).turn := by
  obtain ⟨h0, h1, h2⟩ := h
  unfold spt1 spt2
  cases hb : e.bent with
  | true =>
    have h2 := h2 hb
    simp only [if_true]
    unfold bent1 bent2
    have k1 : x < e.x0 + bBX e := by unfold bBX; omega
    have k2 : x < e.x0 + 2 * bBX e + bAX e := by unfold bBX bAX; omega
    by_cases ha : bA e = 0
    · rw [if_pos ha, if_pos ha, even_left h0 k1 k2, hit_no]; rfl
    · rw [if_neg ha, if_neg ha]
      by_cases hd : bB e * bB e - bA e * bC e y < 0 ∨ bB e * bB e - bA e * bC e y = 0 ∧ bA e < 0
      · rw [if_pos hd, if_pos hd, hit_no]; rfl
      · rw [if_neg hd, if_neg hd, one_left (by omega) (.inl rfl) ha h0 k1 k2, one_left (by omega) (.inr rfl) ha h0 k1 k2]
  | false =>
    simp only [Bool.false_eq_true, if_false]
    rw [hit_no, hitT_int]
    have e0 : noSpt.turn = 0 := rfl
    rw [e0]
    unfold spT spP spM
    rcases (by omega : (y < min e.y0 e.y1 ∨ max e.y0 e.y1 ≤ y) ∨ ((e.y0 ≤ y ∧ y < e.y1)) ∨ (e.y1 ≤ y ∧ y < e.y0)) with g | g | g
    · simp only [if_pos g]; simp
    · have g2 : ¬ (y < min e.y0 e.y1 ∨ max e.y0 e.y1 ≤ y) := by omega
      simp only [if_neg g2, if_neg (show ¬ e.y1 - e.y0 < 0 by omega)]
      have k1 := Int.mul_pos (show 0 < e.x0 - x by omega) (show 0 < e.y1 - y by omega)
      have k2 := Int.mul_nonneg (show 0 ≤ e.x1 - x by omega) (show 0 ≤ y - e.y0 by omega)
      have e1 : e.x0 * (e.y1 - e.y0) + (e.x1 - e.x0) * (y - e.y0) - x * (e.y1 - e.y0) = (e.x0 - x) * (e.y1 - y) + (e.x1 - x) * (y - e.y0) := by grind
      rw [e1, if_pos (by omega)]
    · have g2 : ¬ (y < min e.y0 e.y1 ∨ max e.y0 e.y1 ≤ y) := by omega
      simp only [if_neg g2, if_pos (show e.y1 - e.y0 < 0 by omega)]
      have k1 := Int.mul_nonneg (show 0 ≤ e.x0 - x by omega) (show 0 ≤ y - e.y1 by omega)
      have k2 := Int.mul_pos (show 0 < e.x1 - x by omega) (show 0 < e.y0 - y by omega)
      have e1 : -(e.x0 * (e.y1 - e.y0) + (e.x1 - e.x0) * (y - e.y0)) - x * -(e.y1 - e.y0) = (e.x0 - x) * (y - e.y1) + (e.x1 - x) * (e.y0 - y) := by grind
      rw [e1, if_pos (by omega)]
theorem hit_right {x y : Int} {e : Edg} (h : RightOf x e) : hitT (spt1 e y) x + hitT (spt2 e y) x = 0 := by
  obtain ⟨h0, h1, h2⟩ := h
  unfold spt1 spt2
  cases hb : e.bent with
  | true =>
    have h2 := h2 hb
    simp only [if_true]
    unfold bent1 bent2
    have k1 : e.x0 + bBX e ≤ x := by unfold bBX; omega
    have k2 : e.x0 + 2 * bBX e + bAX e ≤ x := by unfold bBX bAX; omega
    by_cases ha : bA e = 0
    · rw [if_pos ha, if_pos ha, even_right h0 k1 k2, hit_no]; rfl
    · rw [if_neg ha, if_neg ha]
      by_cases hd : bB e * bB e - bA e * bC e y < 0 ∨ bB e * bB e - bA e * bC e y = 0 ∧ bA e < 0
      · rw [if_pos hd, if_pos hd, hit_no]; rfl
      · rw [if_neg hd, if_neg hd, one_right (by omega) (.inl rfl) ha h0 k1 k2, one_right (by omega) (.inr rfl) ha h0 k1 k2]; rfl
  | false =>
    simp only [Bool.false_eq_true, if_false]
    rw [hit_no, hitT_int]
    unfold spT spP spM
    rcases (by omega : (y < min e.y0 e.y1 ∨ max e.y0 e.y1 ≤ y) ∨ ((e.y0 ≤ y ∧ y < e.y1)) ∨ (e.y1 ≤ y ∧ y < e.y0)) with g | g | g
    · simp only [if_pos g]; simp
    · have g2 : ¬ (y < min e.y0 e.y1 ∨ max e.y0 e.y1 ≤ y) := by omega
      simp only [if_neg g2, if_neg (show ¬ e.y1 - e.y0 < 0 by omega)]
      have k1 := Int.mul_nonneg (show 0 ≤ x - e.x0 by omega) (show 0 ≤ e.y1 - y by omega)
      have k2 := Int.mul_nonneg (show 0 ≤ x - e.x1 by omega) (show 0 ≤ y - e.y0 by omega)
      have e1 : e.x0 * (e.y1 - e.y0) + (e.x1 - e.x0) * (y - e.y0) - x * (e.y1 - e.y0) = -((x - e.x0) * (e.y1 - y) + (x - e.x1) * (y - e.y0)) := by grind
      rw [e1, if_neg (by omega)]; rfl
    · have g2 : ¬ (y < min e.y0 e.y1 ∨ max e.y0 e.y1 ≤ y) := by omega
      simp only [if_neg g2, if_pos (show e.y1 - e.y0 < 0 by omega)]
      have k1 := Int.mul_nonneg (show 0 ≤ x - e.x0 by omega) (show 0 ≤ y - e.y1 by omega)
      have k2 := Int.mul_nonneg (show 0 ≤ x - e.x1 by omega) (show 0 ≤ e.y0 - y by omega)
      have e1 : -(e.x0 * (e.y1 - e.y0) + (e.x1 - e.x0) * (y - e.y0)) - x * -(e.y1 - e.y0) = -((x - e.x0) * (y - e.y1) + (x - e.x1) * (e.y0 - y)) := by grind
      rw [e1, if_neg (by omega)]; rfl

/-! how often a bow turns, by its ends -/
theorem root_p {p d : Int} (hd : 0 ≤ d) : 0 ≤ sgR p 1 d ↔ 0 ≤ p ∨ p * p ≤ d := by
  rw [sgR_nn hd, Int.one_mul, Int.one_mul]
  have := sq_nonneg' p
  constructor
  · rintro (⟨h1, _⟩ | ⟨h1, h2, _⟩ | ⟨_, _, _, h⟩)
    · exact .inl h1
    · omega
    · exact .inr h
  · rintro (h | h)
    · exact .inl ⟨h, .inl (by omega)⟩
    · rcases (by omega : 0 ≤ p ∨ p < 0) with g | g
      · exact .inl ⟨g, .inl (by omega)⟩
      · have := Int.mul_pos_of_neg_of_neg g g
        exact .inr (.inr ⟨g, by omega, by omega, h⟩)
theorem root_m {p d : Int} (hd : 0 ≤ d) : 0 ≤ sgR p (-1) d ↔ 0 ≤ p ∧ d ≤ p * p := by
  rw [sgR_nn hd, show (-1 : Int) * -1 = 1 by decide, Int.one_mul]
  have := sq_nonneg' p
  constructor
  · rintro (⟨h1, _⟩ | ⟨h1, h2, _⟩ | ⟨_, h, _⟩) <;> omega
  · rintro ⟨h, k⟩
    rcases (by omega : p = 0 ∨ 0 < p) with g | g
    · subst g
      exact .inl ⟨by omega, .inr (by omega)⟩
    · rcases (by omega : d = 0 ∨ 0 < d) with z | z
      · exact .inl ⟨h, .inr z⟩
      · exact .inr (.inl ⟨g, by omega, z, by omega⟩)
theorem mul_sg {a c : Int} (ha : 0 < a) : (a * c ≤ 0 ↔ c ≤ 0) ∧ (0 ≤ a * c ↔ 0 ≤ c) := by
  rcases (by omega : c < 0 ∨ c = 0 ∨ 0 < c) with h | h | h
  · have := Int.mul_neg_of_pos_of_neg ha h; omega
  · subst h; omega
  · have := Int.mul_pos ha h; omega
theorem mul_sg' {a c : Int} (ha : a < 0) : (a * c ≤ 0 ↔ 0 ≤ c) ∧ (0 ≤ a * c ↔ c ≤ 0) := by
  have := mul_sg (a := -a) (c := c) (by omega)
  rw [Int.neg_mul] at this
  omega
/-- where the roots of a bow's height lie -/
structure Roots (a b c : Int) : Prop where
  u0 : 0 ≤ sgR (-b) 1 (b * b - a * c) ↔ b ≤ 0 ∨ a * c ≤ 0
  u1 : sgR (-b) 1 (b * b - a * c) ≤ 0 ↔ 0 ≤ b ∧ 0 ≤ a * c
  v0 : 0 ≤ sgR (-b) (-1) (b * b - a * c) ↔ b ≤ 0 ∧ 0 ≤ a * c
  v1 : sgR (-b) (-1) (b * b - a * c) ≤ 0 ↔ 0 ≤ b ∨ a * c ≤ 0
theorem roots {a b c : Int} (hd : 0 ≤ b * b - a * c) : Roots a b c := by
  have h1 := root_p (p := -b) hd
  have h2 := root_m (p := b) hd
  have h3 := root_m (p := -b) hd
  have h4 := root_p (p := b) hd
  have e1 := sgR_neg (-b) 1 (b * b - a * c)
  have e2 := sgR_neg (-b) (-1) (b * b - a * c)
  rw [Int.neg_neg] at e1
  rw [Int.neg_neg, show -(-1 : Int) = 1 by decide] at e2
  rw [Int.neg_mul_neg] at h1 h3
  exact ⟨by omega, by omega, by omega, by omega⟩
theorem roots_to {a b c : Int} (hd : 0 ≤ b * b - a * c) :
    (0 ≤ sgR (-b - a) 1 (b * b - a * c) ↔ a + b ≤ 0 ∨ a * (a + 2 * b + c) ≤ 0) ∧ (sgR (-b - a) 1 (b * b - a * c) ≤ 0 ↔ 0 ≤ a + b ∧ 0 ≤ a * (a + 2 * b + c)) ∧ (0 ≤ sgR (-b - a) (-1) (b * b - a * c) ↔ a + b ≤ 0 ∧ 0 ≤ a * (a + 2 * b + c)) ∧ (sgR (-b - a) (-1) (b * b - a * c) ≤ 0 ↔ 0 ≤ a + b ∨ a * (a + 2 * b + c) ≤ 0) := by
  have e : b * b - a * c = (a + b) * (a + b) - a * (a + 2 * b + c) := by grind
  rw [e] at hd ⊢
  obtain ⟨u0, u1, v0, v1⟩ := roots hd
  rw [show -(a + b) = -b - a by omega] at u0 u1 v0 v1
  exact ⟨u0, u1, v0, v1⟩
theorem oneS_turn (s x0 a b d ax bx : Int) : (oneS s x0 a b d ax bx).turn = if (0 < s ∧ (sideI a * sgR (-b) s d < 0 ∨ 0 ≤ sideI a * sgR (-b - a) s d)) ∨ (s < 0 ∧ (sideI a * sgR (-b) s d ≤ 0 ∨ 0 < sideI a * sgR (-b - a) s d)) then 0 else s := by
  unfold oneS
  split <;> rfl
/-- the turns of a bow, by signs alone -/
theorem bow_turns {x0 a b c ax bx : Int} (hd : ¬ (b * b - a * c < 0 ∨ b * b - a * c = 0 ∧ a < 0)) :
    (0 < a → (oneS 1 x0 a b (b * b - a * c) ax bx).turn = (if (b ≤ 0 ∨ c ≤ 0) ∧ (0 < a + b ∧ 0 < a + 2 * b + c) then 1 else 0) ∧ (oneS (-1) x0 a b (b * b - a * c) ax bx).turn = (if (b < 0 ∧ 0 < c) ∧ (0 ≤ a + b ∨ a + 2 * b + c ≤ 0) then -1 else 0)) ∧
    (a < 0 → (oneS 1 x0 a b (b * b - a * c) ax bx).turn = (if (0 ≤ b ∧ c ≤ 0) ∧ (a + b < 0 ∨ 0 < a + 2 * b + c) then 1 else 0) ∧ (oneS (-1) x0 a b (b * b - a * c) ax bx).turn = (if (0 < b ∨ 0 < c) ∧ (a + b ≤ 0 ∧ a + 2 * b + c ≤ 0) then -1 else 0)) := by
  have hd0 : 0 ≤ b * b - a * c := by omega
  have r := roots hd0
  obtain ⟨t1, t2, t3, t4⟩ := roots_to hd0
  obtain ⟨u0, u1, v0, v1⟩ := r
  clear hd hd0
  rw [oneS_turn, oneS_turn]
  generalize sgR (-b) 1 (b * b - a * c) = u at *
  generalize sgR (-b) (-1) (b * b - a * c) = v at *
  generalize sgR (-b - a) 1 (b * b - a * c) = u' at *
  generalize sgR (-b - a) (-1) (b * b - a * c) = v' at *
  refine ⟨fun h => ?_, fun h => ?_⟩
  · have e : sideI a = 1 := by unfold sideI; rw [if_neg (by omega)]
    obtain ⟨k1, k2⟩ := mul_sg (c := c) h
    obtain ⟨k3, k4⟩ := mul_sg (c := a + 2 * b + c) h
    generalize a * c = m at *
    generalize a * (a + 2 * b + c) = n at *
    rw [e]
    simp only [Int.one_mul]
    refine ⟨?_, ?_⟩ <;> (repeat' split) <;> omega
  · have e : sideI a = -1 := by unfold sideI; rw [if_pos h]
    obtain ⟨k1, k2⟩ := mul_sg' (c := c) h
    obtain ⟨k3, k4⟩ := mul_sg' (c := a + 2 * b + c) h
    generalize a * c = m at *
    generalize a * (a + 2 * b + c) = n at *
    rw [e]
    simp only [Int.neg_one_mul]
    refine ⟨?_, ?_⟩ <;> (repeat' split) <;> omega
/-- a root at the middle: its height is on one side -/
theorem mid_facts {a b c : Int} (hd : ¬ (b * b - a * c < 0 ∨ b * b - a * c = 0 ∧ a < 0)) : (0 < a → (b = 0 → c ≤ 0) ∧ (a + b = 0 → a + 2 * b + c ≤ 0) ∧ ¬ (b ≤ 0 ∧ 0 ≤ a + b ∧ 0 < c + b)) ∧ (a < 0 → (b = 0 → 0 < c) ∧ (a + b = 0 → 0 < a + 2 * b + c) ∧ ¬ (0 ≤ b ∧ a + b ≤ 0 ∧ c + b ≤ 0)) := by
  have e : b * b - a * c = (a + b) * (a + b) - a * (a + 2 * b + c) := by grind
  refine ⟨fun h => ⟨fun h0 => ?_, fun h0 => ?_, fun ⟨h0, h1, h2⟩ => ?_⟩, fun h => ⟨fun h0 => ?_, fun h0 => ?_, fun ⟨h0, h1, h2⟩ => ?_⟩⟩
  · subst h0
    rw [Int.mul_zero] at hd
    have := mul_sg (c := c) h
    omega
  · rw [e, h0, Int.mul_zero] at hd
    have := mul_sg (c := a + 2 * b + c) h
    omega
  · have k1 := Int.mul_le_mul_of_nonneg_left (show 1 - b ≤ c by omega) (show 0 ≤ a by omega)
    have k2 := Int.mul_le_mul_of_nonneg_right (show -b ≤ a by omega) (show 0 ≤ -b by omega)
    have e1 : a * (1 - b) = a + a * -b := by grind
    rw [Int.neg_mul_neg] at k2
    omega
  · subst h0
    rw [Int.mul_zero] at hd
    have := mul_sg' (c := c) h
    omega
  · rw [e, h0, Int.mul_zero] at hd
    have := mul_sg' (c := a + 2 * b + c) h
    omega
  · have k1 := Int.mul_le_mul_of_nonneg_left (show b ≤ -c by omega) (show 0 ≤ -a by omega)
    have k2 := Int.mul_le_mul_of_nonneg_right (show b ≤ -a by omega) h0
    rw [Int.neg_mul_neg] at k1
    omega
/-- no root: one side -/
theorem no_facts {a b c : Int} (hd : b * b - a * c < 0 ∨ b * b - a * c = 0 ∧ a < 0) : (0 < a → 0 < c ∧ 0 < a + 2 * b + c) ∧ (a < 0 → c ≤ 0 ∧ a + 2 * b + c ≤ 0) := by
  have e : b * b - a * c = (a + b) * (a + b) - a * (a + 2 * b + c) := by grind
  have s1 := sq_nonneg' b
  have s2 := sq_nonneg' (a + b)
  refine ⟨fun h => ?_, fun h => ?_⟩
  · have := mul_sg (c := c) h
    have := mul_sg (c := a + 2 * b + c) h
    omega
  · have := mul_sg' (c := c) h
    have := mul_sg' (c := a + 2 * b + c) h
    omega
theorem bent_total (x0 a b c ax bx : Int) : (bent1 x0 a b c ax bx).turn + (bent2 x0 a b c ax bx).turn = (if c ≤ 0 then 1 else 0) - (if a + 2 * b + c ≤ 0 then 1 else 0) := by
  unfold bent1 bent2
  by_cases ha : a = 0
  · subst ha
    rw [if_pos rfl, if_pos rfl]
    unfold evenS noSpt
    (repeat' split) <;> dsimp only <;> omega
  · rw [if_neg ha, if_neg ha]
    by_cases hd : b * b - a * c < 0 ∨ b * b - a * c = 0 ∧ a < 0
    · rw [if_pos hd, if_pos hd]
      have k := no_facts hd
      unfold noSpt
      dsimp only
      clear hd
      (repeat' split) <;> omega
    · rw [if_neg hd, if_neg hd]
      have k := mid_facts hd
      have t := bow_turns (x0 := x0) (ax := ax) (bx := bx) hd
      rcases (by omega : 0 < a ∨ a < 0) with g | g
      · have k := k.1 g
        obtain ⟨t1, t2⟩ := t.1 g
        rw [t1, t2]
        (repeat' split) <;> omega
      · have k := k.2 g
        obtain ⟨t1, t2⟩ := t.2 g
        rw [t1, t2]
        (repeat' split) <;> omega
/-- an edge turns as its ends lie -/
theorem turn_total (e : Edg) (y : Int) : (spt1 e y).turn + (spt2 e y).turn = (if e.y0 ≤ y then 1 else 0) - (if e.y1 ≤ y then 1 else 0) := by
  unfold spt1 spt2
  cases hb : e.bent with
  | true =>
    simp only [if_true]
    rw [bent_total]
    unfold bA bB bC
    (repeat' split) <;> omega
  | false =>
    simp only [Bool.false_eq_true, if_false]
    unfold spT noSpt
    dsimp only
    (repeat' split) <;> omega
theorem even_turn (b c ax bx x0 : Int) : (evenS b c ax bx x0).turn = if 0 < b ∧ c ≤ 0 ∧ -c < 2 * b then 1 else if b < 0 ∧ 0 < c ∧ c ≤ -2 * b then -1 else 0 := by
  unfold evenS noSpt
  (repeat' split) <;> rfl
theorem bent_flat {x0 a b c ax bx : Int} (h : (0 < c ∧ 0 < c + b ∧ 0 < a + 2 * b + c) ∨ (c ≤ 0 ∧ c + b ≤ 0 ∧ a + 2 * b + c ≤ 0)) : (bent1 x0 a b c ax bx).turn = 0 ∧ (bent2 x0 a b c ax bx).turn = 0 := by
  unfold bent1 bent2
  by_cases ha : a = 0
  · subst ha
    rw [if_pos rfl, if_pos rfl, even_turn]
    refine ⟨?_, rfl⟩
    (repeat' split) <;> omega
  · rw [if_neg ha, if_neg ha]
    by_cases hd : b * b - a * c < 0 ∨ b * b - a * c = 0 ∧ a < 0
    · rw [if_pos hd, if_pos hd]; exact ⟨rfl, rfl⟩
    · rw [if_neg hd, if_neg hd]
      have k := mid_facts hd
      have t := bow_turns (x0 := x0) (ax := ax) (bx := bx) hd
      clear hd
      rcases (by omega : 0 < a ∨ a < 0) with g | g
      · obtain ⟨_, _, k⟩ := k.1 g
        obtain ⟨t1, t2⟩ := t.1 g
        rw [t1, t2]
        clear t t1 t2
        rcases h with ⟨h0, h1, h2⟩ | ⟨h0, h1, h2⟩
        · rw [if_neg (by omega), if_neg (by omega)]; exact ⟨rfl, rfl⟩
        · rw [if_neg (by omega), if_neg (by omega)]; exact ⟨rfl, rfl⟩
      · obtain ⟨_, _, k⟩ := k.2 g
        obtain ⟨t1, t2⟩ := t.2 g
        rw [t1, t2]
        clear t t1 t2
        rcases h with ⟨h0, h1, h2⟩ | ⟨h0, h1, h2⟩
        · rw [if_neg (by omega), if_neg (by omega)]; exact ⟨rfl, rfl⟩
        · rw [if_neg (by omega), if_neg (by omega)]; exact ⟨rfl, rfl⟩
theorem hitT_off {s : Spt} (h : s.turn = 0) (x : Int) : hitT s x = 0 := by unfold hitT; rw [if_neg fun g => g.1 h]
theorem hit_flat {x y : Int} {e : Edg} (h : Above y e ∨ Below' y e) : hitT (spt1 e y) x + hitT (spt2 e y) x = 0 := by
  have ht : (spt1 e y).turn = 0 ∧ (spt2 e y).turn = 0 := by
    unfold spt1 spt2
    unfold Above Below' at h
    cases hb : e.bent with
    | true =>
      simp only [if_true]
      refine bent_flat ?_
      rw [hb] at h
      unfold bA bB bC
      rcases h with ⟨h0, h1, h2⟩ | ⟨h0, h1, h2⟩
      · have h2 := h2 rfl
        exact .inl ⟨by omega, by omega, by omega⟩
      · have h2 := h2 rfl
        exact .inr ⟨by omega, by omega, by omega⟩
    | false =>
      simp only [Bool.false_eq_true, if_false]
      unfold spT noSpt
      dsimp only
      refine ⟨?_, rfl⟩
      rcases h with ⟨h0, h1, h2⟩ | ⟨h0, h1, h2⟩ <;> (repeat' split) <;> omega
  rw [hitT_off ht.1, hitT_off ht.2]; rfl

/-! the same, of turns -/
theorem turnG_flat {x y : Int} {e : Edg} (h : Above y e ∨ Below' y e) : turnG e x y = 0 := by
  unfold turnG
  split
  · exact hit_flat h
  · rfl
theorem turnG_right {x y : Int} {e : Edg} (h : RightOf x e) : turnG e x y = 0 := by
  unfold turnG
  split
  · exact hit_right h
  · rfl
theorem turnG_left {x y : Int} {e : Edg} (hm : mayE e = true) (hx : near1 x = true) (hy : near1 y = true) (h : LeftOf x e) : turnG e x y = (if e.y0 ≤ y then 1 else 0) - (if e.y1 ≤ y then 1 else 0) := by
  unfold turnG
  rw [hm, hx, hy, hit_left h, turn_total]
  rfl

/-! an edge in two halves -/
theorem sgn_scale {k p : Int} (hk : 0 < k) : sgn (k * p) = sgn p := by
  rcases sgn_cases p with ⟨h, e⟩ | ⟨h, e⟩ | ⟨h, e⟩
  · have := Int.mul_neg_of_pos_of_neg hk h
    rcases sgn_cases (k * p) with ⟨g, e'⟩ | ⟨g, e'⟩ | ⟨g, e'⟩ <;> omega
  · subst h; rw [Int.mul_zero]
  · have := Int.mul_pos hk h
    rcases sgn_cases (k * p) with ⟨g, e'⟩ | ⟨g, e'⟩ | ⟨g, e'⟩ <;> omega
theorem cmpI_scale {k x y : Int} (hk : 0 < k) : cmpI (k * x) (k * y) = cmpI x y := by
  unfold cmpI
  rcases (by omega : x < y ∨ x = y ∨ y < x) with h | h | h
  · have := Int.mul_lt_mul_of_pos_left h hk
    rw [if_pos this, if_pos h]
  · subst h; simp
  · have := Int.mul_lt_mul_of_pos_left h hk
    rw [if_neg (by omega), if_neg (by omega), if_neg (by omega), if_neg (by omega)]
theorem sgR_scale {i j : Int} (hi : 0 < i) (hj : 0 < j) (p q d : Int) : sgR (j * i * p) (j * q) (i * i * d) = sgR p q d := by
  have h1 : cmpI (j * i * p * (j * i * p)) (j * q * (j * q) * (i * i * d)) = cmpI (p * p) (q * q * d) := by
    have e1 : j * i * p * (j * i * p) = j * i * (j * i) * (p * p) := by grind
    have e2 : j * q * (j * q) * (i * i * d) = j * i * (j * i) * (q * q * d) := by grind
    rw [e1, e2, cmpI_scale (Int.mul_pos (Int.mul_pos hj hi) (Int.mul_pos hj hi))]
  unfold sgR
  rw [h1, sgn_scale (Int.mul_pos hj hi), sgn_scale hj, sgn_scale (Int.mul_pos hi hi)]
theorem sgR_two (p s d : Int) : sgR (2 * p) s (4 * d) = sgR p s d := by
  have := sgR_scale (i := 2) (j := 1) (by omega) (by omega) p s d
  rwa [show (1 : Int) * 2 = 2 by decide, show (2 : Int) * 2 = 4 by decide, Int.one_mul] at this
theorem sgR_sixteen (p s d : Int) : sgR (16 * p) (8 * s) (4 * d) = sgR p s d := by
  have := sgR_scale (i := 2) (j := 8) (by omega) (by omega) p s d
  rwa [show (8 : Int) * 2 = 16 by decide, show (2 : Int) * 2 = 4 by decide] at this
theorem side_mono {A B s D : Int} (hD : 0 ≤ D) : (0 ≤ sideI A * sgR (-B - A) s D → 0 ≤ sideI A * sgR (-B) s D) ∧ (sideI A * sgR (-B) s D ≤ 0 → sideI A * sgR (-B - A) s D ≤ 0) := by
  have e1 := sgR_neg (-B) s D
  have e2 := sgR_neg (-B - A) s D
  rw [Int.neg_neg] at e1
  rw [show -(-B - A) = B + A by omega] at e2
  unfold sideI
  split
  · rename_i hA
    refine ⟨fun h => ?_, fun h => ?_⟩
    · have := sgR_mono hD (show B + A ≤ B by omega) (q := -s) (by omega)
      omega
    · have := sgR_mono hD (show -B ≤ -B - A by omega) (q := s) (by omega)
      omega
  · rename_i hA
    refine ⟨fun h => ?_, fun h => ?_⟩
    · have := sgR_mono hD (show -B - A ≤ -B by omega) (q := s) (by omega)
      omega
    · have := sgR_mono hD (show B ≤ B + A by omega) (q := -s) (by omega)
      omega
theorem oneS_halves {s x0 A B D AX BX x : Int} (hs : s = 1 ∨ s = -1) (hD : 0 ≤ D) : hitT (oneS s x0 A B D AX BX) x + hitT (oneS s (x0 + 2 * BX + AX) A (A + B) D AX (AX + BX)) x = hitT (oneS s x0 (4 * A) (2 * B) (4 * D) (4 * AX) (2 * BX)) x := by
  have m1 := side_mono (A := A) (B := B) (s := s) hD
  have m2 := side_mono (A := A) (B := B + A) (s := s) hD
  have eA : sideI (4 * A) = sideI A := by unfold sideI; (repeat' split) <;> omega
  have e1 : oneP x0 (4 * A) (2 * B) (4 * D) (4 * AX) (2 * BX) = 16 * oneP x0 A B D AX BX := by unfold oneP; grind
  have e2 : oneQ s (4 * A) (2 * B) (4 * AX) (2 * BX) = 8 * oneQ s A B AX BX := by unfold oneQ; grind
  have e3 : oneP (x0 + 2 * BX + AX) A (A + B) D AX (AX + BX) = oneP x0 A B D AX BX := by unfold oneP; grind
  have e4 : oneQ s A (A + B) AX (AX + BX) = oneQ s A B AX BX := by unfold oneQ; grind
  have e5 : 4 * A * (4 * A) = 16 * (A * A) := by grind
  have f1 : sgR (-(2 * B)) s (4 * D) = sgR (-B) s D := by rw [← sgR_two (-B)]; congr 1; omega
  have f2 : sgR (-(2 * B) - 4 * A) s (4 * D) = sgR (-(B + A) - A) s D := by rw [← sgR_two (-(B + A) - A)]; congr 1; omega
  have f3 : 16 * oneP x0 A B D AX BX - x * (16 * (A * A)) = 16 * (oneP x0 A B D AX BX - x * (A * A)) := by grind
  unfold oneS
  rw [e1, e2, e3, e4, e5, f1, f2, eA, show A + B = B + A by omega]
  rw [show -(B + A) = -B - A by omega] at m2 ⊢
  unfold noSpt
  generalize hH : sgR (oneP x0 A B D AX BX - x * (A * A)) (oneQ s A B AX BX) D = G
  have hH2 : sgR (16 * oneP x0 A B D AX BX - x * (16 * (A * A))) (8 * oneQ s A B AX BX) (4 * D) = G := by rw [f3, sgR_sixteen]; exact hH
  generalize sideI A * sgR (-B) s D = from' at *
  generalize sideI A * sgR (-B - A) s D = mid at *
  generalize sideI A * sgR (-B - A - A) s D = to at *
  have hit0 : ∀ t p q d m : Int, hitT ⟨t, p, q, d, m⟩ x = if t ≠ 0 ∧ 0 < sgR (p - x * m) q d then t else 0 := fun _ _ _ _ _ => rfl
  have hz : hitT ⟨0, 0, 0, 0, 0⟩ x = 0 := by rw [hit0, if_neg (fun h => h.1 rfl)]
  have h1 : hitT ⟨s, oneP x0 A B D AX BX, oneQ s A B AX BX, D, A * A⟩ x = if 0 < G then s else 0 := by
    rw [hit0, hH]
    rcases hs with rfl | rfl <;> simp
  have h2 : hitT ⟨s, 16 * oneP x0 A B D AX BX, 8 * oneQ s A B AX BX, 4 * D, 16 * (A * A)⟩ x = if 0 < G then s else 0 := by
    rw [hit0, hH2]
    rcases hs with rfl | rfl <;> simp
  generalize (if 0 < G then s else 0) = V at *
  rcases hs with rfl | rfl
  · by_cases c1 : from' < 0
    · rw [if_pos (by omega), if_pos (by omega), if_pos (by omega), hz]; rfl
    · by_cases c2 : 0 ≤ mid
      · rw [if_pos (by omega), hz]
        by_cases c3 : 0 ≤ to
        · rw [if_pos (by omega), if_pos (by omega), hz]; rfl
        · rw [if_neg (by omega), if_neg (by omega), h1, h2]; omega
      · rw [if_neg (by omega), if_pos (by omega), if_neg (by omega), hz, h1, h2]; omega
  · by_cases c1 : from' ≤ 0
    · rw [if_pos (by omega), if_pos (by omega), if_pos (by omega), hz]; rfl
    · by_cases c2 : 0 < mid
      · rw [if_pos (by omega), hz]
        by_cases c3 : 0 < to
        · rw [if_pos (by omega), if_pos (by omega), hz]; rfl
        · rw [if_neg (by omega), if_neg (by omega), h1, h2]; omega
      · rw [if_neg (by omega), if_pos (by omega), if_neg (by omega), hz, h1, h2]; omega
theorem evenS_halves (B c AX BX x0 x : Int) : hitT (evenS B c AX BX x0) x + hitT (evenS B (2 * B + c) AX (AX + BX) (x0 + 2 * BX + AX)) x = hitT (evenS (2 * B) c (4 * AX) (2 * BX) x0) x := by
  have e1 : evP B (2 * B + c) AX (AX + BX) (x0 + 2 * BX + AX) = evP B c AX BX x0 := by unfold evP; grind
  have e2 : evP (2 * B) c (4 * AX) (2 * BX) x0 = 4 * evP B c AX BX x0 := by unfold evP; grind
  have e3 : 4 * (2 * B) * (2 * B) = 4 * (4 * B * B) := by grind
  have h1 : ∀ t p m : Int, hitT ⟨t, 4 * p, 0, 0, 4 * m⟩ x = hitT ⟨t, p, 0, 0, m⟩ x := by
    intro t p m
    rw [hitT_int, hitT_int]
    have : 4 * p - x * (4 * m) = 4 * (p - x * m) := by grind
    rw [this]
    (repeat' split) <;> omega
  have h2 := h1 1 (evP B c AX BX x0) (4 * B * B)
  have h3 := h1 (-1) (evP B c AX BX x0) (4 * B * B)
  unfold evenS
  rw [e1, e2, e3]
  have hz := hit_no x
  rcases (by omega : (0 < B ∧ c ≤ 0 ∧ -c < 2 * B) ∨ (0 < B ∧ 2 * B + c ≤ 0 ∧ -(2 * B + c) < 2 * B) ∨ (B < 0 ∧ 0 < c ∧ c ≤ -2 * B) ∨ (B < 0 ∧ 0 < 2 * B + c ∧ 2 * B + c ≤ -2 * B) ∨ (¬ (0 < 2 * B ∧ c ≤ 0 ∧ -c < 2 * (2 * B)) ∧ ¬ (2 * B < 0 ∧ 0 < c ∧ c ≤ -2 * (2 * B)))) with g | g | g | g | g
  · rw [if_pos g, if_neg (by omega), if_neg (by omega), if_pos (by omega), hz]; omega
  · rw [if_neg (by omega), if_neg (by omega), if_pos g, if_pos (by omega), hz]; omega
  · rw [if_neg (by omega), if_pos g, if_neg (by omega), if_neg (by omega), if_neg (by omega), if_pos (by omega), hz]; omega
  · rw [if_neg (by omega), if_neg (by omega), if_neg (by omega), if_pos g, if_neg (by omega), if_pos (by omega), hz]; omega
  · rw [if_neg (by omega), if_neg (by omega), if_neg (by omega), if_neg (by omega), if_neg g.1, if_neg g.2, hz]; rfl
theorem bent_halves (x0 A B c AX BX x : Int) : (hitT (bent1 x0 A B c AX BX) x + hitT (bent2 x0 A B c AX BX) x) + (hitT (bent1 (x0 + 2 * BX + AX) A (A + B) (A + 2 * B + c) AX (AX + BX)) x + hitT (bent2 (x0 + 2 * BX + AX) A (A + B) (A + 2 * B + c) AX (AX + BX)) x) = hitT (bent1 x0 (4 * A) (2 * B) c (4 * AX) (2 * BX)) x + hitT (bent2 x0 (4 * A) (2 * B) c (4 * AX) (2 * BX)) x := by
  have hz := hit_no x
  unfold bent1 bent2
  by_cases ha : A = 0
  · subst ha
    have := evenS_halves B c AX BX x0 x
    simp only [if_true, Int.mul_zero, hz, Int.zero_add, Int.add_zero]
    exact this
  · have e1 : (A + B) * (A + B) - A * (A + 2 * B + c) = B * B - A * c := by grind
    have e2 : 2 * B * (2 * B) - 4 * A * c = 4 * (B * B - A * c) := by grind
    rw [e1, e2]
    generalize B * B - A * c = D
    simp only [if_neg ha, if_neg (show ¬ 4 * A = 0 by omega)]
    by_cases hd : D < 0 ∨ D = 0 ∧ A < 0
    · simp only [if_pos hd, if_pos (show 4 * D < 0 ∨ 4 * D = 0 ∧ 4 * A < 0 by omega), hz]; rfl
    · simp only [if_neg hd, if_neg (show ¬ (4 * D < 0 ∨ 4 * D = 0 ∧ 4 * A < 0) by omega)]
      have h1 := oneS_halves (x0 := x0) (A := A) (B := B) (AX := AX) (BX := BX) (x := x) (.inl rfl) (show 0 ≤ D by omega)
      have h2 := oneS_halves (x0 := x0) (A := A) (B := B) (AX := AX) (BX := BX) (x := x) (.inr rfl) (show 0 ≤ D by omega)
      omega
/-- an edge four times as large -/
def quadE (e : Edg) : Edg := ⟨4 * e.x0, 4 * e.y0, e.bent, 4 * e.cx, 4 * e.cy, 4 * e.x1, 4 * e.y1⟩
/-- its halves -/
def halfA (e : Edg) : Edg := if e.bent then ⟨4 * e.x0, 4 * e.y0, true, 2 * (e.x0 + e.cx), 2 * (e.y0 + e.cy), e.x0 + 2 * e.cx + e.x1, e.y0 + 2 * e.cy + e.y1⟩ else ⟨4 * e.x0, 4 * e.y0, false, 4 * e.cx, 4 * e.cy, 2 * (e.x0 + e.x1), 2 * (e.y0 + e.y1)⟩
def halfB (e : Edg) : Edg := if e.bent then ⟨e.x0 + 2 * e.cx + e.x1, e.y0 + 2 * e.cy + e.y1, true, 2 * (e.cx + e.x1), 2 * (e.cy + e.y1), 4 * e.x1, 4 * e.y1⟩ else ⟨2 * (e.x0 + e.x1), 2 * (e.y0 + e.y1), false, 4 * e.cx, 4 * e.cy, 4 * e.x1, 4 * e.y1⟩
theorem line_hit (a b p q c d x y : Int) : hitT ⟨spT ⟨a, b, false, p, q, c, d⟩ y, spP ⟨a, b, false, p, q, c, d⟩ y, 0, 0, spM ⟨a, b, false, p, q, c, d⟩ y⟩ x = (if b ≤ y ∧ y < d then (if 0 < a * (d - b) + (c - a) * (y - b) - x * (d - b) then 1 else 0) else 0) - (if d ≤ y ∧ y < b then (if a * (d - b) + (c - a) * (y - b) - x * (d - b) < 0 then 1 else 0) else 0) := by
  rw [hitT_int]
  unfold spT spP spM
  dsimp only
  rcases (by omega : (y < min b d ∨ max b d ≤ y) ∨ (b ≤ y ∧ y < d) ∨ (d ≤ y ∧ y < b)) with g | g | g
  · simp only [if_pos g]
    rw [if_neg (by omega), if_neg (by omega), if_neg (by omega)]; rfl
  · have g2 : ¬ (y < min b d ∨ max b d ≤ y) := by omega
    simp only [if_neg g2, if_neg (show ¬ d - b < 0 by omega)]
    rw [if_pos g, if_neg (show ¬ (d ≤ y ∧ y < b) by omega), Int.sub_zero]
  · have g2 : ¬ (y < min b d ∨ max b d ≤ y) := by omega
    simp only [if_neg g2, if_pos (show d - b < 0 by omega)]
    rw [if_neg (show ¬ (b ≤ y ∧ y < d) by omega), if_pos g]
    rw [show x * -(d - b) = -(x * (d - b)) by grind]
    generalize a * (d - b) + (c - a) * (y - b) = k
    generalize x * (d - b) = l
    (repeat' split) <;> omega
theorem hit_halves (e : Edg) (x y : Int) : (hitT (spt1 (halfA e) y) x + hitT (spt2 (halfA e) y) x) + (hitT (spt1 (halfB e) y) x + hitT (spt2 (halfB e) y) x) = hitT (spt1 (quadE e) y) x + hitT (spt2 (quadE e) y) x := by
  obtain ⟨x0, y0, bt, cx, cy, x1, y1⟩ := e
  cases bt with
  | true =>
    have h := bent_halves (4 * x0) (y0 - 2 * cy + y1) (2 * (cy - y0)) (4 * y0 - y) (x0 - 2 * cx + x1) (2 * (cx - x0)) x
    unfold spt1 spt2 quadE halfA halfB
    simp only [if_true]
    unfold bA bB bC bAX bBX
    dsimp only
    rw [show 4 * y0 - 2 * (4 * cy) + 4 * y1 = 4 * (y0 - 2 * cy + y1) by omega, show 4 * cy - 4 * y0 = 2 * (2 * (cy - y0)) by omega, show 4 * x0 - 2 * (4 * cx) + 4 * x1 = 4 * (x0 - 2 * cx + x1) by omega, show 4 * cx - 4 * x0 = 2 * (2 * (cx - x0)) by omega, ← h]
    rw [show 4 * y0 - 2 * (2 * (y0 + cy)) + (y0 + 2 * cy + y1) = y0 - 2 * cy + y1 by omega, show 2 * (y0 + cy) - 4 * y0 = 2 * (cy - y0) by omega, show 4 * x0 - 2 * (2 * (x0 + cx)) + (x0 + 2 * cx + x1) = x0 - 2 * cx + x1 by omega, show 2 * (x0 + cx) - 4 * x0 = 2 * (cx - x0) by omega]
    rw [show y0 + 2 * cy + y1 - 2 * (2 * (cy + y1)) + 4 * y1 = y0 - 2 * cy + y1 by omega, show 2 * (cy + y1) - (y0 + 2 * cy + y1) = y0 - 2 * cy + y1 + 2 * (cy - y0) by omega, show y0 + 2 * cy + y1 - y = y0 - 2 * cy + y1 + 2 * (2 * (cy - y0)) + (4 * y0 - y) by omega, show x0 + 2 * cx + x1 - 2 * (2 * (cx + x1)) + 4 * x1 = x0 - 2 * cx + x1 by omega, show 2 * (cx + x1) - (x0 + 2 * cx + x1) = x0 - 2 * cx + x1 + 2 * (cx - x0) by omega]
    rw [show x0 + 2 * cx + x1 = 4 * x0 + 2 * (2 * (cx - x0)) + (x0 - 2 * cx + x1) by omega]
  | false =>
    unfold spt1 spt2 quadE halfA halfB
    simp only [Bool.false_eq_true, if_false, hit_no, Int.add_zero]
    rw [line_hit, line_hit, line_hit]
    have e1 : 4 * x0 * (4 * y1 - 4 * y0) + (4 * x1 - 4 * x0) * (y - 4 * y0) - x * (4 * y1 - 4 * y0) = 2 * (4 * x0 * (2 * (y0 + y1) - 4 * y0) + (2 * (x0 + x1) - 4 * x0) * (y - 4 * y0) - x * (2 * (y0 + y1) - 4 * y0)) := by grind
    have e2 : 2 * (x0 + x1) * (4 * y1 - 2 * (y0 + y1)) + (4 * x1 - 2 * (x0 + x1)) * (y - 2 * (y0 + y1)) - x * (4 * y1 - 2 * (y0 + y1)) = 4 * x0 * (2 * (y0 + y1) - 4 * y0) + (2 * (x0 + x1) - 4 * x0) * (y - 4 * y0) - x * (2 * (y0 + y1) - 4 * y0) := by grind
    rw [e1, e2]
    generalize 4 * x0 * (2 * (y0 + y1) - 4 * y0) + (2 * (x0 + x1) - 4 * x0) * (y - 4 * y0) - x * (2 * (y0 + y1) - 4 * y0) = K
    have k0 : 0 < 2 * K ↔ 0 < K := by omega
    have k1 : 2 * K < 0 ↔ K < 0 := by omega
    simp only [k0, k1]
    generalize (if 0 < K then (1 : Int) else 0) = u
    generalize (if K < 0 then (1 : Int) else 0) = w
    clear e1 e2 k0 k1
    (repeat' split) <;> omega
theorem turnG_halves {e : Edg} (h0 : mayE (quadE e) = true) (h1 : mayE (halfA e) = true) (h2 : mayE (halfB e) = true) (x y : Int) : turnG (halfA e) x y + turnG (halfB e) x y = turnG (quadE e) x y := by
  unfold turnG
  rw [h0, h1, h2]
  split
  · exact hit_halves e x y
  · rfl
theorem sum_zeroM {l : List Edg} {f : Edg → Int} (h : ∀ e ∈ l, f e = 0) : (l.map f).sum = 0 := by
  induction l with
  | nil => rfl
  | cons e l ih => rw [List.map_cons, List.sum_cons, h e List.mem_cons_self, ih fun a ha => h a (List.mem_cons_of_mem _ ha)]; rfl
theorem edges_may {l : List Sg} (h : pathMay l = true) : ∀ e ∈ edgesS l, mayE e = true := by
  have hmm : l.length ≤ 300 ∧ maySF 0 l = true := by simpa [pathMay] using h
  have hr := may_right l 0 hmm.2
  have hn : ∀ e ∈ edgesS l, NearE e := by
    refine edges_all NearE NearP l (fun a b c d h1 h2 => ⟨⟨h1, ⟨show near1 0 = true by decide, show near1 0 = true by decide⟩, h2⟩, fun _ => ⟨rfl, rfl⟩⟩) (fun s hs _ => ?_) (fun s hs h1 h4 x y hxy => ?_)
    · obtain ⟨k, hk⟩ := hr s hs
      exact ⟨(rightS_near hk).1, (rightS_near hk).2.1⟩
    · obtain ⟨k, hk⟩ := hr s hs
      obtain ⟨n1, n2, n3, n4⟩ := rightS_near hk
      refine ⟨⟨hxy, ⟨n3, n4⟩, n1, n2⟩, fun hb => ?_⟩
      have h3 : s.kind ≠ 3 := by
        intro h3
        unfold segE at hb
        simp [h3] at hb
      exact rightS_straight hk h3
  intro e he
  obtain ⟨⟨⟨n1, n2⟩, ⟨n3, n4⟩, n5, n6⟩, hb⟩ := hn e he
  unfold mayE
  cases hbt : e.bent with
  | true => simp [n1, n2, n3, n4, n5, n6]
  | false => obtain ⟨c1, c2⟩ := hb hbt; simp [n1, n2, n5, n6, c1, c2]; decide
theorem turnG_far (e : Edg) {x y : Int} (h : ¬ (near1 x = true ∧ near1 y = true)) : turnG e x y = 0 := by
  unfold turnG
  rw [if_neg]
  intro k
  simp only [Bool.and_eq_true] at k
  exact h k.2
theorem wind_left {l : List Sg} {x y : Int} (hm : ∀ e ∈ edgesS l, mayE e = true) (h : ∀ e ∈ edgesS l, LeftOf x e) : windG (edgesS l) x y = 0 := by
  by_cases hn : near1 x = true ∧ near1 y = true
  · have hc := edges_closed (fun _ b => if b ≤ y then 1 else 0) l
    rw [← hc]
    unfold windG
    congr 1
    exact List.map_congr_left fun e he => turnG_left (hm e he) hn.1 hn.2 (h e he)
  · exact sum_zeroM fun e _ => turnG_far e hn
theorem wind_right {l : List Edg} {x y : Int} (h : ∀ e ∈ l, RightOf x e) : windG l x y = 0 := sum_zeroM fun e he => turnG_right (h e he)
theorem wind_flat {l : List Edg} {x y : Int} (h : ∀ e ∈ l, Above y e ∨ Below' y e) : windG l x y = 0 := sum_zeroM fun e he => turnG_flat (h e he)
/-- beside a small path -/
theorem small_left {l : List Sg} (hm : pathMay l = true) (h : ∀ s ∈ l, SmallS s) {x y : Int} (hx : x < -32 ∨ 287 ≤ x) : windG (edgesS l) x y = 0 := by
  have hs := edges_small h
  rcases hx with hx | hx
  · refine wind_left (edges_may hm) fun e he => ?_
    obtain ⟨⟨h1, h2⟩, ⟨h3, h4⟩, h5, h6⟩ := hs e he
    unfold smallI at *
    exact ⟨by omega, by omega, fun _ => by omega⟩
  · refine wind_right fun e he => ?_
    obtain ⟨⟨h1, h2⟩, ⟨h3, h4⟩, h5, h6⟩ := hs e he
    unfold smallI at *
    exact ⟨by omega, by omega, fun _ => by omega⟩
end Go.Proofs.Ytmoabhfpibkcnaa
