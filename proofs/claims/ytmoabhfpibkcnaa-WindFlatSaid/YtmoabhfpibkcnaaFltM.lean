/- Flat paths, plain: they may be; they wind as the path does. -/
import Derived.Test.YtmoabhfpibkcnaaFltE
namespace Go.Proofs.Ytmoabhfpibkcnaa
open Go.RowKit

theorem right_near {s : Sg} {k : Int} (h : rightS s k = true) : near1 s.x = true ∧ near1 s.y = true ∧ near1 s.cx = true ∧ near1 s.cy = true := by
  unfold rightS at h
  simp only [List.all_cons, List.all_nil, Bool.and_true, Bool.and_eq_true] at h
  obtain ⟨⟨h1, h2, h3, h4⟩, _⟩ := h
  exact ⟨h1, h2, h3, h4⟩
theorem right_line {p : Int × Int} {k : Int} (h0 : k ≠ 0) (h4 : k ≠ 4) (h1 : near1 p.1 = true) (h2 : near1 p.2 = true) : rightS (lineS p) k = true := by
  unfold rightS lineS
  simp only [List.all_cons, List.all_nil, h1, h2, show near1 0 = true by decide]
  simp [h0, h4]
theorem maySF_lines (rest : List Sg) (hrest : maySF 2 rest = true) : ∀ (pts : List (Int × Int)) (k : Int), pts ≠ [] → k ≠ 0 → k ≠ 4 → (∀ p ∈ pts, near1 p.1 = true ∧ near1 p.2 = true) → maySF k (pts.map lineS ++ rest) = true
  | [], _, h, _, _, _ => absurd rfl h
  | [p], k, _, h0, h4, hp => by
    obtain ⟨h1, h2⟩ := hp p List.mem_cons_self
    rw [List.map_cons, List.map_nil, List.singleton_append, maySF, right_line h0 h4 h1 h2]
    exact hrest
  | p :: q :: r, k, _, h0, h4, hp => by
    obtain ⟨h1, h2⟩ := hp p List.mem_cons_self
    rw [List.map_cons, List.cons_append, maySF, right_line h0 h4 h1 h2, Bool.true_and]
    exact maySF_lines rest hrest (q :: r) 2 (by simp) (by omega) (by omega) fun p hp' => hp p (List.mem_cons_of_mem _ hp')
/-- what may stand behind a bow may stand behind a line -/
theorem maySF_three : ∀ l : List Sg, maySF 3 l = true → maySF 2 l = true
  | [], _ => rfl
  | s :: r, h => by
    rw [maySF, Bool.and_eq_true] at h ⊢
    refine ⟨?_, h.2⟩
    have h := h.1
    unfold rightS at h ⊢
    simpa using h
theorem near_iff (t : Int) : near1 t = true ↔ -8191 ≤ t ∧ t ≤ 8191 := by unfold near1; simp
theorem maySF_flat {cnt : Edg → Nat} (hc : ∀ e, 1 ≤ cnt e) : ∀ (l : List Sg) (k x y : Int), maySF k l = true → ((k = 0 ∨ k = 4) ∨ (near1 x = true ∧ near1 y = true)) → maySF k (flatS cnt x y l) = true
  | [], _, _, _, _, _ => rfl
  | s :: r, k, x, y, h, hk => by
    rw [maySF, Bool.and_eq_true] at h
    obtain ⟨hr, h⟩ := h
    obtain ⟨n1, n2, n3, n4⟩ := right_near hr
    have ih := maySF_flat hc r s.kind s.x s.y h (.inr ⟨n1, n2⟩)
    rw [flatS]
    by_cases h3 : s.kind = 3
    · rw [if_pos h3]
      have hk2 : ¬ (k = 0 ∨ k = 4) := fun e => by
        rcases e with e | e <;> subst e
        · have := rightS_first hr; omega
        · unfold rightS at hr
          simp [h3] at hr
      obtain ⟨x1, x2⟩ := hk.resolve_left hk2
      rw [h3] at ih
      rw [near_iff] at n1 n2 n3 n4 x1 x2
      refine maySF_lines _ (maySF_three _ ih) _ k ?_ (fun e => hk2 (.inl e)) (fun e => hk2 (.inr e)) fun p hp => ?_
      · have := hc (segE x y s)
        unfold flatPts
        simp
        omega
      · unfold flatPts at hp
        obtain ⟨i, hi, rfl⟩ := List.mem_map.1 hp
        have hi := List.mem_range.1 hi
        rw [near_iff, near_iff]
        exact ⟨placeR_in (hc _) (by omega) x1.1 x1.2 n3.1 n3.2 n1.1 n1.2, placeR_in (hc _) (by omega) x2.1 x2.2 n4.1 n4.2 n2.1 n2.2⟩
    · rw [if_neg h3, List.singleton_append, maySF, hr]
      exact ih
/-- around a point in no bow's box a path and its lines wind alike -/
theorem flat_winds {cnt : Edg → Nat} (hc : ∀ e, 1 ≤ cnt e) {l : List Sg} (h : pathMay l = true) (hlen : (flatS cnt 0 0 l).length ≤ 300) {u v : Int} (hu : near1 u = true) (hv : near1 v = true) (hout : ∀ e ∈ edgesS l, e.bent = true → ¬ (min (min e.x0 e.cx) e.x1 ≤ u ∧ u ≤ max (max e.x0 e.cx) e.x1 ∧ min (min e.y0 e.cy) e.y1 ≤ v ∧ v ≤ max (max e.y0 e.cy) e.y1)) : pathMay (flatS cnt 0 0 l) = true ∧ windG (edgesS (flatS cnt 0 0 l)) u v = windG (edgesS l) u v := by
  have hm : maySF 0 l = true := by
    have : l.length ≤ 300 ∧ maySF 0 l = true := by simpa [pathMay] using h
    exact this.2
  have h2 : pathMay (flatS cnt 0 0 l) = true := by
    unfold pathMay
    rw [decide_eq_true hlen, maySF_flat hc l 0 0 0 hm (.inl (.inl rfl))]; rfl
  refine ⟨h2, ?_⟩
  rw [edgesS_flat hc h h2]
  refine windG_flatMap _ fun e he => ?_
  cases hb : e.bent with
  | true => exact flatE_turn (hc e) hb (edges_may h e he) hu hv (hout e he hb)
  | false =>
    unfold flatE
    rw [if_neg (by rw [hb]; simp)]
    simp [windG]
end Go.Proofs.Ytmoabhfpibkcnaa
