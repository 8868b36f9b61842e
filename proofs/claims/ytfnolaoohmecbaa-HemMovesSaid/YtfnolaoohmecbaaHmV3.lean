/- Strokes, plain: wider ones, reversed paths. -/
import Derived.Test.YtfnolaoohmecbaaHmV2
namespace Go.Proofs.Ytfnolaoohmecbaa
open Go.RowKit

/-! wider -/
def wideS (q : Shp) (w : Int) : Shp := ⟨q.e, w, q.first, q.last, q.kind⟩
theorem shapesE_wide (shut : Bool) (s : Sty) (n i : Nat) (e : Edg) (w : Int) : shapesE shut ⟨w, s.cap, s.join⟩ n i e = (shapesE shut s n i e).map (wideS · w) := by
  unfold shapesE
  rw [List.map_append, List.map_append]
  congr 1
  congr 1 <;> split <;> rfl
theorem shapesL_wide (shut : Bool) (s : Sty) (l : List Edg) (k : Nat) (w : Int) : shapesL shut ⟨w, s.cap, s.join⟩ l k = (shapesL shut s l k).map (wideS · w) := by
  unfold shapesL
  rw [List.map_flatMap]
  congr 1
  funext i
  exact shapesE_wide shut s l.length i _ w
theorem shapesC_wide (s : Sty) (c : Ct) (w : Int) : shapesC ⟨w, s.cap, s.join⟩ c = (shapesC s c).map (wideS · w) := by
  unfold shapesC
  rw [List.map_append, shapesL_wide]
  congr 1
  split
  · unfold dotS
    split
    · rfl
    · split
      · rfl
      · split <;> rfl
  · rfl
theorem allS_wide (l : List Sg) (s : Sty) (w : Int) : allS l ⟨w, s.cap, s.join⟩ = (allS l s).map (wideS · w) := by
  unfold allS
  rw [List.map_flatMap]
  congr 1
  funext c
  exact shapesC_wide s c w
theorem shapesE_is (shut : Bool) (s : Sty) (n i : Nat) (e : Edg) : ∀ q ∈ shapesE shut s n i e, q.wide = s.wide := by
  intro q hq
  unfold shapesE at hq
  rcases List.mem_append.1 hq with hq | hq
  · rw [List.mem_singleton.1 hq]
  · rcases List.mem_append.1 hq with hq | hq <;> split at hq
    · rw [List.mem_singleton.1 hq]; rfl
    · cases hq
    · rw [List.mem_singleton.1 hq]; rfl
    · cases hq
theorem allS_is (l : List Sg) (s : Sty) : ∀ q ∈ allS l s, q.wide = s.wide := by
  intro q hq
  unfold allS at hq
  obtain ⟨c, _, hq⟩ := List.mem_flatMap.1 hq
  unfold shapesC at hq
  rcases List.mem_append.1 hq with hq | hq
  · split at hq
    · unfold dotS at hq
      split at hq
      · cases hq
      · split at hq
        · rw [List.mem_singleton.1 hq]; rfl
        · split at hq
          · rw [List.mem_singleton.1 hq]; rfl
          · cases hq
    · cases hq
  · unfold shapesL at hq
    obtain ⟨i, _, hq⟩ := List.mem_flatMap.1 hq
    exact shapesE_is _ _ _ _ _ q hq
theorem covS_wide {q : Shp} {w x y : Int} (h0 : 0 ≤ q.wide) (h1 : q.wide ≤ w) (h : covS q x y = true) : covS (wideS q w) x y = true := by
  have hww : q.wide * q.wide ≤ w * w := Int.mul_le_mul h1 h1 h0 (by omega)
  have nn : ∀ t : Int, 0 ≤ t * t := fun t => by rw [← Int.natAbs_mul_self]; omega
  unfold covS wideS at *
  dsimp only at *
  split
  · rename_i hk
    rw [if_pos hk] at h
    unfold pieceIn at *
    have n1 := nn (q.e.x1 - q.e.x0)
    have n2 := nn (q.e.y1 - q.e.y0)
    have hl := Int.mul_le_mul_of_nonneg_right hww (show 0 ≤ (q.e.x1 - q.e.x0) * (q.e.x1 - q.e.x0) + (q.e.y1 - q.e.y0) * (q.e.y1 - q.e.y0) by omega)
    simp only [Bool.and_eq_true, Bool.or_eq_true, decide_eq_true_eq] at *
    refine ⟨by omega, ?_, ?_⟩
    · rcases h.2.1 with h | ⟨h, h2⟩
      · exact .inl h
      · exact .inr ⟨h, by omega⟩
    · rcases h.2.2 with h | ⟨h, h2⟩
      · exact .inl h
      · exact .inr ⟨h, by omega⟩
  · rename_i hk
    rw [if_neg hk] at h
    split
    · rename_i hk
      rw [if_pos hk] at h
      unfold discIn at *
      simp only [decide_eq_true_eq] at *
      omega
    · rename_i hk
      rw [if_neg hk] at h
      unfold squareIn at *
      simp only [Bool.and_eq_true, decide_eq_true_eq] at *
      omega
theorem allS_wider (l : List Sg) {s : Sty} {w : Int} (h0 : 0 ≤ s.wide) (h1 : s.wide ≤ w) (x y : Int) (h : covL (allS l s) x y = true) : covL (allS l ⟨w, s.cap, s.join⟩) x y = true := by
  unfold covL at *
  rw [allS_wide, List.any_map, List.any_eq_true]
  rw [List.any_eq_true] at h
  obtain ⟨q, hq, hc⟩ := h
  have hw := allS_is l s q hq
  exact ⟨q, hq, covS_wide (by omega) (by omega) hc⟩
end Go.Proofs.Ytfnolaoohmecbaa
