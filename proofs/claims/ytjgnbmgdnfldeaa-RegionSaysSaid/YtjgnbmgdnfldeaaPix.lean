/- Plain laws on regions that are said pixel by pixel: no program in sight. -/
import Derived.Test.YtjgnbmgdnfldeaaPure
namespace Go.Proofs.Ytjgnbmgdnfldeaa

/-- a region, pixel by pixel -/
def pixReg (W H : Nat) (q : Nat → Nat → Bool) : Reg := ⟨W, H, (List.range H).map fun j => runsTo (q j) W⟩
/-- how many there are -/
def pixCount (W : Nat) (q : Nat → Nat → Bool) : Nat → Nat
  | 0 => 0
  | n + 1 => pixCount W q n + countTo (q n) W

theorem pix_row {W H : Nat} (q : Nat → Nat → Bool) {j : Nat} (hj : j < H) : (pixReg W H q).rows.getD j [] = runsTo (q j) W := by
  simp [pixReg, hj]
theorem pix_in {W H : Nat} (hW : W ≤ 64) (q : Nat → Nat → Bool) {j : Nat} (hj : j < H) (i : Nat) : inRuns ((pixReg W H q).rows.getD j []) i = (decide (i < W) && q j i) := by
  rw [pix_row q hj, inRuns_runsTo _ hW]
theorem side_nat {W : Nat} (h0 : 1 ≤ W) (h1 : W ≤ 64) : isSide (W : Int) = true := by
  simp [isSide]; omega
theorem pix_may {W H : Nat} (hW0 : 1 ≤ W) (hW : W ≤ 64) (hH0 : 1 ≤ H) (hH : H ≤ 64) (q : Nat → Nat → Bool) : mayReg (pixReg W H q) = true := by
  simp only [mayReg, pixReg, side_nat hW0 hW, side_nat hH0 hH, Bool.true_and, Bool.and_eq_true, decide_eq_true_eq]
  refine ⟨by simp, ?_⟩
  simp only [List.all_eq_true, List.mem_map]
  rintro l ⟨j, _, rfl⟩
  exact mayRuns_runsTo _ hW
theorem pix_congr {W H : Nat} {p q : Nat → Nat → Bool} (h : ∀ j, j < H → ∀ i, i < W → p j i = q j i) : pixReg W H p = pixReg W H q := by
  unfold pixReg
  congr 1
  refine List.map_congr_left fun j hj => runsTo_congr (h j ?_)
  simpa using hj
theorem made_pix {W H : Nat} (hW0 : 1 ≤ W) (hW : W ≤ 64) (hH0 : 1 ≤ H) (hH : H ≤ 64) {row : Nat → List (Int × Int)} {q : Nat → Nat → Bool} (h : ∀ j, j < H → ∀ i, i < W → inRuns (row j) i = q j i) : madeReg W H row = pixReg W H q := by
  have hs := side_nat hW0 hW
  rw [madeReg_ok hs (side_nat hH0 hH)]
  unfold pixReg
  simp only [Int.toNat_natCast]
  congr 1
  refine List.map_congr_left fun j hj => ?_
  rw [normRow_eq, cutI_side hs, runsTo_beyond (n := W) hW (fun i h1 _ => by simp; omega)]
  refine runsTo_congr fun i hi => ?_
  rw [h j (by simpa using hj) i hi]
  simp [hi]
theorem madeErr_pix {W H : Nat} (hW0 : 1 ≤ W) (hW : W ≤ 64) (hH0 : 1 ≤ H) (hH : H ≤ 64) : madeErr W H = 0 := madeErr_ok (side_nat hW0 hW) (side_nat hH0 hH)
theorem both_pix {W H : Nat} (hW0 : 1 ≤ W) (hW : W ≤ 64) (hH0 : 1 ≤ H) (hH : H ≤ 64) (f : Bool → Bool → Bool) (p q : Nat → Nat → Bool) :
    bothReg (rowsOp f) (pixReg W H p) (pixReg W H q) = pixReg W H (fun j i => f (p j i) (q j i)) ∧ bothErr (pixReg W H p) (pixReg W H q) = 0 := by
  obtain ⟨e1, e2⟩ := bothReg_ok (rowsOp f) (pix_may hW0 hW hH0 hH p) (pix_may hW0 hW hH0 hH q) rfl rfl
  refine ⟨?_, e2⟩
  rw [e1]
  refine made_pix hW0 hW hH0 hH fun j hj i hi => ?_
  rw [inRuns_rowsOp _ _ _ (by omega), pix_in hW _ hj, pix_in hW _ hj]
  simp [hi]
theorem one_pix {W H : Nat} (hW0 : 1 ≤ W) (hW : W ≤ 64) (hH0 : 1 ≤ H) (hH : H ≤ 64) (p : Nat → Nat → Bool) {row : Nat → List (Int × Int)} {q : Nat → Nat → Bool} (h : ∀ j, j < H → ∀ i, i < W → inRuns (row j) i = q j i) :
    oneReg (pixReg W H p) row = pixReg W H q ∧ oneErr (pixReg W H p) = 0 := by
  have hm := pix_may hW0 hW hH0 hH p
  simp only [oneReg, oneErr, hm, if_true, and_true]
  exact made_pix hW0 hW hH0 hH h
theorem inRuns_notRow (l : List (Int × Int)) (W : Int) {i : Nat} (h : (i : Int) < cutI W) : inRuns (notRow l W) i = !inRuns l i := by
  have hc := cutI_le W
  unfold notRow
  rw [inRuns_runsTo _ (Nat.le_refl _)]
  have h1 : i < 64 := by omega
  have h2 : inRuns [(0, cutI W)] i = true := by simp [inRuns, inRun]; omega
  simp [h1, h2]
theorem not_pix {W H : Nat} (hW0 : 1 ≤ W) (hW : W ≤ 64) (hH0 : 1 ≤ H) (hH : H ≤ 64) (p : Nat → Nat → Bool) :
    oneReg (pixReg W H p) (fun j => notRow ((pixReg W H p).rows.getD j []) (pixReg W H p).W) = pixReg W H (fun j i => !p j i) ∧ oneErr (pixReg W H p) = 0 := by
  refine one_pix hW0 hW hH0 hH p fun j hj i hi => ?_
  have hc := cutI_side (side_nat hW0 hW)
  rw [inRuns_notRow _ _ (by show (i : Int) < cutI (W : Int); rw [hc]; omega), pix_in hW _ hj]
  simp [hi]
theorem rect_pix {W H : Nat} (hW0 : 1 ≤ W) (hW : W ≤ 64) (hH0 : 1 ≤ H) (hH : H ≤ 64) (x0 y0 x1 y1 : Int) :
    madeReg W H (rectRow x0 y0 x1 y1) = pixReg W H (fun j i => decide (y0 ≤ (j : Int)) && (decide ((j : Int) < y1) && (decide (x0 ≤ (i : Int)) && decide ((i : Int) < x1)))) := by
  refine made_pix hW0 hW hH0 hH fun j hj i hi => ?_
  rw [inRuns_rect]
  congr 1; congr 1
  simp only [inRun]
  rw [Bool.eq_iff_iff]; simp; omega
theorem all_pix {W H : Nat} (hW0 : 1 ≤ W) (hW : W ≤ 64) (hH0 : 1 ≤ H) (hH : H ≤ 64) : madeReg W H (rectRow 0 0 W H) = pixReg W H (fun _ _ => true) := by
  rw [rect_pix hW0 hW hH0 hH]
  refine pix_congr fun j hj i hi => ?_
  simp; omega
theorem none_pix {W H : Nat} (hW0 : 1 ≤ W) (hW : W ≤ 64) (hH0 : 1 ≤ H) (hH : H ≤ 64) : madeReg W H (rectRow 0 0 0 0) = pixReg W H (fun _ _ => false) := by
  rw [rect_pix hW0 hW hH0 hH]
  refine pix_congr fun j hj i hi => ?_
  simp

theorem sum_pix {W H : Nat} (hW : W ≤ 64) (q : Nat → Nat → Bool) : ∀ n, n ≤ H → sumTo (pixReg W H q) n = pixCount W q n
  | 0, _ => rfl
  | n + 1, hn => by
    have ih := sum_pix (H := H) hW q n (by omega)
    simp only [sumTo, pixCount, ih]
    congr 1
    rw [pix_row q (by omega)]
    have key : ∀ k, k ≤ 64 - W → countTo (inRuns (runsTo (q n) W)) (W + k) = countTo (q n) W := by
      intro k
      induction k with
      | zero =>
        intro _
        refine countTo_congr fun i hi => ?_
        rw [inRuns_runsTo _ hW]; simp; intro _; omega
      | succ k ih =>
        intro hk
        rw [← Nat.add_assoc, countTo_off, ih (by omega)]
        rw [inRuns_runsTo _ hW]; simp; omega
    have := key (64 - W) (Nat.le_refl _)
    rwa [show W + (64 - W) = 64 by omega] at this
theorem count_pix {W H : Nat} (hW0 : 1 ≤ W) (hW : W ≤ 64) (hH0 : 1 ≤ H) (hH : H ≤ 64) (q : Nat → Nat → Bool) : countReg (pixReg W H q) = pixCount W q H := by
  rw [countReg_ok (pix_may hW0 hW hH0 hH q), show (pixReg W H q).H.toNat = H from rfl]
  exact sum_pix hW q H (Nat.le_refl _)

theorem countTo_add {p q r : Nat → Bool} : ∀ {n : Nat}, (∀ i, i < n → (p i && q i) = false ∧ (p i || q i) = r i) → countTo p n + countTo q n = countTo r n
  | 0, _ => rfl
  | n + 1, h => by
    have ih := countTo_add (n := n) fun i hi => h i (by omega)
    obtain ⟨h1, h2⟩ := h n (by omega)
    simp only [countTo]
    rw [← h2]
    cases hp : p n <;> cases hq : q n <;> simp [hp, hq] at h1 ⊢ <;> omega
theorem pixCount_add {W : Nat} {p q r : Nat → Nat → Bool} : ∀ {n : Nat}, (∀ j, j < n → ∀ i, i < W → (p j i && q j i) = false ∧ (p j i || q j i) = r j i) → pixCount W p n + pixCount W q n = pixCount W r n
  | 0, _ => rfl
  | n + 1, h => by
    have ih := pixCount_add (n := n) fun j hj => h j (by omega)
    have hr := countTo_add (h n (by omega))
    simp only [pixCount]; omega
theorem pixCount_congr {W : Nat} {p q : Nat → Nat → Bool} : ∀ {n : Nat}, (∀ j, j < n → ∀ i, i < W → p j i = q j i) → pixCount W p n = pixCount W q n
  | 0, _ => rfl
  | n + 1, h => by
    simp only [pixCount, pixCount_congr (n := n) fun j hj => h j (by omega), countTo_congr (h n (by omega))]
theorem pixCount_none {W : Nat} {p : Nat → Nat → Bool} : ∀ {n : Nat}, (∀ j, j < n → ∀ i, i < W → p j i = false) → pixCount W p n = 0
  | 0, _ => rfl
  | n + 1, h => by
    simp only [pixCount, pixCount_none (n := n) fun j hj => h j (by omega), countTo_none (h n (by omega))]
theorem countTo_all {p : Nat → Bool} : ∀ {n : Nat}, (∀ i, i < n → p i = true) → countTo p n = n
  | 0, _ => rfl
  | n + 1, h => by rw [countTo_on (h n (by omega)), countTo_all (n := n) fun i hi => h i (by omega)]
theorem pixCount_all {W : Nat} : ∀ n, pixCount W (fun _ _ => true) n = W * n
  | 0 => rfl
  | n + 1 => by simp only [pixCount, pixCount_all n, countTo_all (p := fun _ => true) (n := W) (fun _ _ => rfl), Nat.mul_succ]
theorem pixCount_le (W : Nat) (q : Nat → Nat → Bool) : ∀ n, pixCount W q n ≤ W * n
  | 0 => Nat.le_refl _
  | n + 1 => by
    have := pixCount_le W q n
    have := countTo_le (q n) W
    simp only [pixCount, Nat.mul_succ]; omega
theorem same_pix {W H : Nat} {p q : Nat → Nat → Bool} (h : ∀ j, j < H → ∀ i, i < W → p j i = q j i) : sameReg (pixReg W H p) (pixReg W H q) = true := sameReg_eq (pix_congr h)
end Go.Proofs.Ytjgnbmgdnfldeaa
