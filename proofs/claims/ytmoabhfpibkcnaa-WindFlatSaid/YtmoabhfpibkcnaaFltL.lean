/- Flat paths, plain: rounding, points within a box, turns of a chain of lines. -/
import Derived.Test.YtmoabhfpibkcnaaHulM
namespace Go.Proofs.Ytmoabhfpibkcnaa
open Go.RowKit

/-- v by m, to the nearest, of two as near the even one -/
def overI (v m : Int) : Int := if 2 * (v - v / m * m) > m ∨ (2 * (v - v / m * m) = m ∧ ¬ v / m % 2 = 0) then v / m + 1 else v / m
theorem overI_in {v m lo hi : Int} (hm : 0 < m) (h1 : lo * m ≤ v) (h2 : v ≤ hi * m) : lo ≤ overI v m ∧ overI v m ≤ hi := by
  have q1 : lo ≤ v / m := (Int.le_ediv_iff_mul_le hm).2 h1
  have q2 : v / m ≤ hi := by
    have := Int.ediv_le_ediv hm h2
    rwa [Int.mul_ediv_cancel _ (by omega)] at this
  unfold overI
  split
  · rename_i h
    refine ⟨by omega, ?_⟩
    by_cases e : v / m = hi
    · exfalso
      have := Int.ediv_mul_le v (show m ≠ 0 by omega)
      rw [e] at this h
      omega
    · omega
  · exact ⟨q1, q2⟩
theorem overI_mul {k m : Int} (hm : 0 < m) : overI (k * m) m = k := by
  unfold overI
  rw [Int.mul_ediv_cancel _ (by omega)]
  rw [if_neg (by omega)]
/-- a place of a bow lies between the least and the greatest of its three numbers -/
theorem bow_between {a b c lo hi j k : Int} (hj : 0 ≤ j) (hk : 0 ≤ k) (a1 : lo ≤ a) (a2 : a ≤ hi) (b1 : lo ≤ b) (b2 : b ≤ hi) (c1 : lo ≤ c) (c2 : c ≤ hi) : lo * ((j + k) * (j + k)) ≤ a * j * j + 2 * b * k * j + c * k * k ∧ a * j * j + 2 * b * k * j + c * k * k ≤ hi * ((j + k) * (j + k)) := by
  have p1 := Int.mul_nonneg hj hj
  have p2 := Int.mul_nonneg hk hj
  have p3 := Int.mul_nonneg hk hk
  have e1 := Int.mul_le_mul_of_nonneg_right a1 p1
  have e2 := Int.mul_le_mul_of_nonneg_right a2 p1
  have e3 := Int.mul_le_mul_of_nonneg_right b1 p2
  have e4 := Int.mul_le_mul_of_nonneg_right b2 p2
  have e5 := Int.mul_le_mul_of_nonneg_right c1 p3
  have e6 := Int.mul_le_mul_of_nonneg_right c2 p3
  have r0 : a * j * j + 2 * b * k * j + c * k * k = a * (j * j) + 2 * (b * (k * j)) + c * (k * k) := by grind
  have r1 : lo * ((j + k) * (j + k)) = lo * (j * j) + 2 * (lo * (k * j)) + lo * (k * k) := by grind
  have r2 : hi * ((j + k) * (j + k)) = hi * (j * j) + 2 * (hi * (k * j)) + hi * (k * k) := by grind
  rw [r0, r1, r2]
  omega
/-- a chain of lines -/
def linesOf : Int → Int → List (Int × Int) → List Edg
  | _, _, [] => []
  | a, b, (c, d) :: r => lineE a b c d :: linesOf c d r
def lastOf : Int → Int → List (Int × Int) → Int × Int
  | a, b, [] => (a, b)
  | _, _, (c, d) :: r => lastOf c d r
theorem lineE_right {x a b c d : Int} (h0 : a ≤ x) (h1 : c ≤ x) : RightOf x (lineE a b c d) := ⟨h0, h1, fun h => by simp [lineE] at h⟩
theorem lineE_left {x a b c d : Int} (h0 : x < a) (h1 : x < c) : LeftOf x (lineE a b c d) := ⟨h0, h1, fun h => by simp [lineE] at h⟩
theorem lineE_above {y a b c d : Int} (h0 : y < b) (h1 : y < d) : Above y (lineE a b c d) := ⟨h0, h1, fun h => by simp [lineE] at h⟩
theorem lineE_below {y a b c d : Int} (h0 : b ≤ y) (h1 : d ≤ y) : Below' y (lineE a b c d) := ⟨h0, h1, fun h => by simp [lineE] at h⟩
/-- a chain beyond a point's right, above or below: no turn -/
theorem lines_none {x y : Int} : ∀ (l : List (Int × Int)) (a b : Int), (a ≤ x ∧ ∀ p ∈ l, p.1 ≤ x) ∨ (y < b ∧ ∀ p ∈ l, y < p.2) ∨ (b ≤ y ∧ ∀ p ∈ l, p.2 ≤ y) → windG (linesOf a b l) x y = 0
  | [], _, _, _ => rfl
  | (c, d) :: r, a, b, h => by
    have e : turnG (lineE a b c d) x y = 0 := by
      rcases h with ⟨h0, h⟩ | ⟨h0, h⟩ | ⟨h0, h⟩
      · exact turnG_right (lineE_right h0 (h (c, d) List.mem_cons_self))
      · exact turnG_flat (.inl (lineE_above h0 (h (c, d) List.mem_cons_self)))
      · exact turnG_flat (.inr (lineE_below h0 (h (c, d) List.mem_cons_self)))
    have ih := lines_none (x := x) (y := y) r c d (by
      rcases h with ⟨_, h⟩ | ⟨_, h⟩ | ⟨_, h⟩
      · exact .inl ⟨h (c, d) List.mem_cons_self, fun p hp => h p (List.mem_cons_of_mem _ hp)⟩
      · exact .inr (.inl ⟨h (c, d) List.mem_cons_self, fun p hp => h p (List.mem_cons_of_mem _ hp)⟩)
      · exact .inr (.inr ⟨h (c, d) List.mem_cons_self, fun p hp => h p (List.mem_cons_of_mem _ hp)⟩))
    unfold linesOf
    unfold windG at ih ⊢
    rw [List.map_cons, List.sum_cons, e, ih]; rfl
/-- a chain to a point's right (the point lies left of it): the turns sum to what its ends say -/
theorem lines_left {x y : Int} (hx : near1 x = true) (hy : near1 y = true) : ∀ (l : List (Int × Int)) (a b : Int), near1 a = true → near1 b = true → x < a → (∀ p ∈ l, near1 p.1 = true ∧ near1 p.2 = true ∧ x < p.1) → windG (linesOf a b l) x y = (if b ≤ y then 1 else 0) - (if (lastOf a b l).2 ≤ y then 1 else 0)
  | [], a, b, _, _, _, _ => by unfold linesOf lastOf; simp [windG]
  | (c, d) :: r, a, b, ha, hb, h0, h => by
    obtain ⟨hc, hd, h1⟩ := h (c, d) List.mem_cons_self
    have hm : mayE (lineE a b c d) = true := by
      unfold mayE lineE
      simp only [ha, hb, hc, hd, Bool.true_and, Bool.and_true]
      decide
    have e := turnG_left (e := lineE a b c d) (y := y) hm hx hy (lineE_left h0 h1)
    have ih := lines_left hx hy r c d hc hd h1 fun p hp => h p (List.mem_cons_of_mem _ hp)
    unfold linesOf lastOf
    unfold windG at ih ⊢
    rw [List.map_cons, List.sum_cons, e, ih]
    simp only [lineE]
    omega
/-- the k-th of n places of a bow, rounded -/
def placeR (a b c : Int) (n k : Nat) : Int := overI (a * ((n : Int) - k) * ((n : Int) - k) + 2 * b * k * ((n : Int) - k) + c * k * k) ((n : Int) * n)
theorem placeR_in {a b c lo hi : Int} {n k : Nat} (hn : 1 ≤ n) (hk : k ≤ n) (a1 : lo ≤ a) (a2 : a ≤ hi) (b1 : lo ≤ b) (b2 : b ≤ hi) (c1 : lo ≤ c) (c2 : c ≤ hi) : lo ≤ placeR a b c n k ∧ placeR a b c n k ≤ hi := by
  have hm : 0 < (n : Int) * n := Int.mul_pos (by omega) (by omega)
  have h := bow_between (j := (n : Int) - k) (k := (k : Int)) (by omega) (by omega) a1 a2 b1 b2 c1 c2
  rw [show (n : Int) - k + k = n by omega] at h
  exact overI_in hm h.1 h.2
theorem placeR_end (a b c : Int) {n : Nat} (hn : 1 ≤ n) : placeR a b c n n = c := by
  unfold placeR
  rw [show (n : Int) - n = 0 by omega, show a * 0 * 0 + 2 * b * n * 0 + c * n * n = c * ((n : Int) * n) by rw [Int.mul_assoc c]; simp]
  exact overI_mul (Int.mul_pos (by omega) (by omega))
def flatPts (e : Edg) (n : Nat) : List (Int × Int) := (List.range n).map fun k => (placeR e.x0 e.cx e.x1 n (k + 1), placeR e.y0 e.cy e.y1 n (k + 1))
/-- an edge as lines -/
def flatE (n : Nat) (e : Edg) : List Edg := if e.bent then linesOf e.x0 e.y0 (flatPts e n) else [e]
theorem lastOf_snoc : ∀ (l : List (Int × Int)) (a b : Int) (p : Int × Int), lastOf a b (l ++ [p]) = p
  | [], _, _, (c, d) => rfl
  | (c, d) :: r, _, _, p => by
    rw [List.cons_append]
    exact lastOf_snoc r c d p
theorem flatPts_last (e : Edg) {n : Nat} (hn : 1 ≤ n) : lastOf e.x0 e.y0 (flatPts e n) = (e.x1, e.y1) := by
  obtain ⟨m, rfl⟩ : ∃ m, n = m + 1 := ⟨n - 1, by omega⟩
  unfold flatPts
  rw [List.range_succ, List.map_append, List.map_cons, List.map_nil, lastOf_snoc, placeR_end _ _ _ hn, placeR_end _ _ _ hn]
theorem flatE_turn {e : Edg} {n : Nat} {u v : Int} (hn : 1 ≤ n) (hb : e.bent = true) (hm : mayE e = true) (hu : near1 u = true) (hv : near1 v = true) (h : ¬ (min (min e.x0 e.cx) e.x1 ≤ u ∧ u ≤ max (max e.x0 e.cx) e.x1 ∧ min (min e.y0 e.cy) e.y1 ≤ v ∧ v ≤ max (max e.y0 e.cy) e.y1)) : windG (flatE n e) u v = turnG e u v := by
  have hlast := flatPts_last e hn
  have hmem : ∀ p ∈ flatPts e n, ∃ k, k ≤ n ∧ p = (placeR e.x0 e.cx e.x1 n k, placeR e.y0 e.cy e.y1 n k) := by
    intro p hp
    unfold flatPts at hp
    obtain ⟨k, hk, rfl⟩ := List.mem_map.1 hp
    exact ⟨k + 1, by have := List.mem_range.1 hk; omega, rfl⟩
  have hX : ∀ {lo hi : Int}, lo ≤ e.x0 → e.x0 ≤ hi → lo ≤ e.cx → e.cx ≤ hi → lo ≤ e.x1 → e.x1 ≤ hi → ∀ p ∈ flatPts e n, lo ≤ p.1 ∧ p.1 ≤ hi := by
    intro lo hi h1 h2 h3 h4 h5 h6 p hp
    obtain ⟨k, hk, rfl⟩ := hmem p hp
    exact placeR_in hn hk h1 h2 h3 h4 h5 h6
  have hY : ∀ {lo hi : Int}, lo ≤ e.y0 → e.y0 ≤ hi → lo ≤ e.cy → e.cy ≤ hi → lo ≤ e.y1 → e.y1 ≤ hi → ∀ p ∈ flatPts e n, lo ≤ p.2 ∧ p.2 ≤ hi := by
    intro lo hi h1 h2 h3 h4 h5 h6 p hp
    obtain ⟨k, hk, rfl⟩ := hmem p hp
    exact placeR_in hn hk h1 h2 h3 h4 h5 h6
  unfold flatE
  rw [if_pos hb]
  rcases (by omega : u < min (min e.x0 e.cx) e.x1 ∨ max (max e.x0 e.cx) e.x1 < u ∨ v < min (min e.y0 e.cy) e.y1 ∨ max (max e.y0 e.cy) e.y1 < v) with g | g | g | g
  · have hr : ∀ t : Int, near1 t = true ↔ -8191 ≤ t ∧ t ≤ 8191 := fun t => by unfold near1; simp
    rw [turnG_left hm hu hv ⟨by omega, by omega, fun _ => by omega⟩]
    unfold mayE at hm
    simp only [Bool.and_eq_true, hr] at hm
    obtain ⟨⟨m1, m2⟩, ⟨m3, m4⟩, ⟨m5, m6⟩, ⟨m7, m8⟩, ⟨m9, m10⟩, ⟨m11, m12⟩, _⟩ := hm
    have k1 := hX (lo := min (min e.x0 e.cx) e.x1) (hi := 8191) (by omega) (by omega) (by omega) (by omega) (by omega) (by omega)
    have k2 := hX (lo := -8191) (hi := 8191) (by omega) (by omega) (by omega) (by omega) (by omega) (by omega)
    have k3 := hY (lo := -8191) (hi := 8191) (by omega) (by omega) (by omega) (by omega) (by omega) (by omega)
    have hl := lines_left hu hv (flatPts e n) e.x0 e.y0 ((hr _).2 ⟨m1, m2⟩) ((hr _).2 ⟨m3, m4⟩) (by omega) fun p hp => ⟨(hr _).2 (k2 p hp), (hr _).2 (k3 p hp), by have := k1 p hp; omega⟩
    rw [hl, hlast]
  · rw [turnG_right ⟨by omega, by omega, fun _ => by omega⟩]
    exact lines_none _ _ _ (.inl ⟨by omega, fun p hp => by have := hX (lo := min (min e.x0 e.cx) e.x1) (hi := u) (by omega) (by omega) (by omega) (by omega) (by omega) (by omega) p hp; omega⟩)
  · rw [turnG_flat (.inl ⟨by omega, by omega, fun _ => by omega⟩)]
    exact lines_none _ _ _ (.inr (.inl ⟨by omega, fun p hp => by have := hY (lo := v + 1) (hi := max (max e.y0 e.cy) e.y1) (by omega) (by omega) (by omega) (by omega) (by omega) (by omega) p hp; omega⟩))
  · rw [turnG_flat (.inr ⟨by omega, by omega, fun _ => by omega⟩)]
    exact lines_none _ _ _ (.inr (.inr ⟨by omega, fun p hp => by have := hY (lo := min (min e.y0 e.cy) e.y1) (hi := v) (by omega) (by omega) (by omega) (by omega) (by omega) (by omega) p hp; omega⟩))
end Go.Proofs.Ytmoabhfpibkcnaa
