/- Plain laws on regions: no program in sight. -/
import Derived.Test.YtjgnbmgdnfldeaaSame
namespace Go.Proofs.Ytjgnbmgdnfldeaa

theorem cutI_side {W : Int} (h : isSide W = true) : cutI W = W := by
  simp [isSide] at h; unfold cutI; omega
theorem runsTo_beyond {p : Nat → Bool} {n m : Nat} (hnm : n ≤ m) (h : ∀ i, n ≤ i → i < m → p i = false) : runsTo p m = runsTo p n := by
  have := rruns_const (p := p) (i := n) (m - n) (fun j h1 h2 => h j h1 (by omega))
  rw [show n + (m - n) = m by omega] at this
  rw [runsTo, this, runsTo]
theorem normRow_eq (l : List (Int × Int)) (W : Int) : normRow l W = runsTo (fun i => decide ((i : Int) < cutI W) && inRuns l i) 64 := by
  unfold normRow
  refine runsTo_congr fun i _ => ?_
  have e : ((i : Int) - 0).toNat = i := by omega
  simp only [shiftP, e]
  have : decide (0 ≤ (i : Int) - 0) = true := by simp
  rw [this]; simp
theorem inRuns_normRow (l : List (Int × Int)) (W : Int) (i : Nat) : inRuns (normRow l W) i = (decide ((i : Int) < cutI W) && inRuns l i) := by
  rw [normRow_eq, inRuns_runsTo _ (Nat.le_refl _)]
  by_cases h : i < 64
  · simp [h]
  · simp [h, inRuns_64 l (show 64 ≤ i by omega)]
theorem mayRuns_normRow (l : List (Int × Int)) {W : Int} (h : isSide W = true) : mayRuns (normRow l W) W = true := by
  have hc := cutI_side h
  simp [isSide] at h
  obtain ⟨n, rfl⟩ := Int.eq_ofNat_of_zero_le (show 0 ≤ W by omega)
  rw [normRow_eq, hc, runsTo_beyond (n := n) (by omega) (fun i h1 h2 => by simp; omega)]
  exact mayRuns_runsTo _ (by omega)
theorem normRow_congr {l m : List (Int × Int)} {W : Int} (h : ∀ i : Nat, (i : Int) < cutI W → inRuns l i = inRuns m i) : normRow l W = normRow m W := by
  rw [normRow_eq, normRow_eq]
  refine runsTo_congr fun i _ => ?_
  by_cases hi : (i : Int) < cutI W
  · rw [h i hi]
  · simp [hi]
/-- runs in order stay as they are -/
theorem normRow_may {l : List (Int × Int)} {W : Int} (h : mayRuns l W = true) : normRow l W = l := by
  have hW : 0 ≤ W ∧ W ≤ 64 := by simp [mayRuns] at h; omega
  obtain ⟨n, rfl⟩ := Int.eq_ofNat_of_zero_le hW.1
  have hc : cutI (n : Int) = n := by unfold cutI; omega
  have off : ∀ i, n ≤ i → inRuns l i = false := fun i hi => by
    have := inRuns_runsTo (inRuns l) (n := n) (by omega) i
    rw [runsTo_places h] at this
    rw [this]; simp; omega
  rw [normRow_eq, hc, runsTo_beyond (n := n) (by omega) (fun i h1 _ => by simp; omega)]
  refine runsTo_eq h fun i hi => ?_
  simp [hi]

theorem madeReg_ok {W H : Int} (h1 : isSide W = true) (h2 : isSide H = true) (row : Nat → List (Int × Int)) : madeReg W H row = ⟨W, H, (List.range H.toNat).map fun j => normRow (row j) W⟩ := by
  simp [madeReg, h1, h2]
theorem madeReg_row {W H : Int} (h1 : isSide W = true) (h2 : isSide H = true) (row : Nat → List (Int × Int)) {j : Nat} (hj : (j : Int) < H) : (madeReg W H row).rows.getD j [] = normRow (row j) W := by
  rw [madeReg_ok h1 h2]
  have : j < H.toNat := by omega
  simp [this]
theorem mayReg_made {W H : Int} (h1 : isSide W = true) (h2 : isSide H = true) (row : Nat → List (Int × Int)) : mayReg (madeReg W H row) = true := by
  rw [madeReg_ok h1 h2]
  simp only [mayReg, h1, h2, Bool.true_and, Bool.and_eq_true, decide_eq_true_eq]
  refine ⟨?_, ?_⟩
  · simp [isSide] at h2; simp; omega
  · simp only [List.all_eq_true, List.mem_map]
    rintro l ⟨j, _, rfl⟩
    exact mayRuns_normRow _ h1
theorem madeReg_congr {W H : Int} {r1 r2 : Nat → List (Int × Int)} (h : ∀ j : Nat, (j : Int) < H → ∀ i : Nat, (i : Int) < cutI W → inRuns (r1 j) i = inRuns (r2 j) i) : madeReg W H r1 = madeReg W H r2 := by
  by_cases hs : isSide W = true ∧ isSide H = true
  · rw [madeReg_ok hs.1 hs.2, madeReg_ok hs.1 hs.2]
    congr 1
    refine List.map_congr_left fun j hj => normRow_congr (h j ?_)
    simp at hj
    have := hs.2
    simp [isSide] at this
    omega
  · have : (isSide W && isSide H) = false := by
      cases h1 : isSide W <;> cases h2 : isSide H <;> simp_all
    simp [madeReg, this]
/-- a region that may be is made of its rows -/
theorem madeReg_self {R : Reg} (h : mayReg R = true) : madeReg R.W R.H (fun j => R.rows.getD j []) = R := by
  obtain ⟨h1, h2, h3⟩ := mayReg_len h
  rw [madeReg_ok h1 h2]
  obtain ⟨W, H, rows⟩ := R
  simp only at h1 h2 h3 ⊢
  congr 1
  have hn : H.toNat = rows.length := by omega
  rw [hn]
  apply List.ext_getElem
  · simp
  · intro j a1 a2
    simp only [List.getElem_map, List.getElem_range]
    have : rows.getD j [] = rows[j] := by simp at a1; simp [a1]
    rw [this]
    refine normRow_may ?_
    simp only [mayReg, Bool.and_eq_true, List.all_eq_true] at h
    exact h.2.2.2 _ (List.getElem_mem _)

theorem inRuns_rowsOp (h : Bool → Bool → Bool) (la lb : List (Int × Int)) {i : Nat} (hi : i < 64) : inRuns (rowsOp h la lb) i = h (inRuns la i) (inRuns lb i) := by
  unfold rowsOp
  rw [inRuns_runsTo _ (Nat.le_refl _)]
  simp [hi]
theorem inRuns_rect (x0 y0 x1 y1 : Int) (j i : Nat) : inRuns (rectRow x0 y0 x1 y1 j) i = (decide (y0 ≤ (j : Int)) && (decide ((j : Int) < y1) && inRun (x0, x1) i)) := by
  unfold rectRow
  by_cases h : (j : Int) < y0 ∨ y1 ≤ (j : Int)
  · rw [if_pos h]
    have : (decide (y0 ≤ (j : Int)) && (decide ((j : Int) < y1) && inRun (x0, x1) i)) = false := by
      rcases h with h | h
      · have : ¬ y0 ≤ (j : Int) := by omega
        simp [this]
      · have : ¬ (j : Int) < y1 := by omega
        simp [this]
    rw [this]; rfl
  · rw [if_neg h]
    have h1 : y0 ≤ (j : Int) := by omega
    have h2 : (j : Int) < y1 := by omega
    simp [inRuns, h1, h2]
theorem bothReg_ok (f : List (Int × Int) → List (Int × Int) → List (Int × Int)) {A B : Reg} (hA : mayReg A = true) (hB : mayReg B = true) (hW : A.W = B.W) (hH : A.H = B.H) :
    bothReg f A B = madeReg A.W A.H (fun j => f (A.rows.getD j []) (B.rows.getD j [])) ∧ bothErr A B = 0 := by
  have : bothMay A B = true := by simp [bothMay, hA, hB, hW, hH]
  simp [bothReg, bothErr, this]
theorem sameReg_self (A : Reg) : sameReg A A = true := by simp [sameReg]
theorem sameReg_eq {A B : Reg} (h : A = B) : sameReg A B = true := by rw [h]; exact sameReg_self B

/-- an interval's places -/
theorem countTo_congr {p q : Nat → Bool} : ∀ {n : Nat}, (∀ i, i < n → p i = q i) → countTo p n = countTo q n
  | 0, _ => rfl
  | n + 1, h => by
    have := countTo_congr (n := n) fun i hi => h i (by omega)
    simp only [countTo, this, h n (by omega)]
theorem countTo_iv (lo hi : Int) : ∀ n : Nat, (countTo (fun i => decide (lo ≤ (i : Int)) && decide ((i : Int) < hi)) n : Int) = max 0 (min hi n - max lo 0)
  | 0 => by simp [countTo]; omega
  | n + 1 => by
    have ih := countTo_iv lo hi n
    simp only [countTo]
    split
    · rename_i h; simp at h; omega
    · rename_i h
      have h' : ¬ (lo ≤ (n : Int) ∧ (n : Int) < hi) := by simpa using h
      omega
theorem countTo_none {p : Nat → Bool} : ∀ {n : Nat}, (∀ i, i < n → p i = false) → countTo p n = 0
  | 0, _ => rfl
  | n + 1, h => by simp [countTo, countTo_none (n := n) fun i hi => h i (by omega), h n (by omega)]

theorem sumTo_congr {A B : Reg} : ∀ {n : Nat}, (∀ j, j < n → ∀ i, i < 64 → inRuns (A.rows.getD j []) i = inRuns (B.rows.getD j []) i) → sumTo A n = sumTo B n
  | 0, _ => rfl
  | n + 1, h => by
    have := sumTo_congr (A := A) (B := B) (n := n) fun j hj => h j (by omega)
    simp only [sumTo, this, countTo_congr (h n (by omega))]
theorem countReg_ok {R : Reg} (h : mayReg R = true) : countReg R = sumTo R R.H.toNat := by
  have := (mayReg_len h).2.2
  simp [countReg, h]
  congr 1; omega
end Go.Proofs.Ytjgnbmgdnfldeaa
