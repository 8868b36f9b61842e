/- The document's strokes cover what the shapes cover. -/
import Derived.Test.YtfnolaoohmecbaaRSd
-- lit6
namespace Go.Proofs.Ytfnolaoohmecbaa
open Go.RowKit

theorem armL_nn (e : Edg) : 0 ≤ armL e := by
  have a1 : (0 : Int) ≤ (e.x1 - e.x0) * (e.x1 - e.x0) := by rw [← Int.natAbs_mul_self]; omega
  have a2 : (0 : Int) ≤ (e.y1 - e.y0) * (e.y1 - e.y0) := by rw [← Int.natAbs_mul_self]; omega
  unfold armL
  omega
theorem piece_arm (e : Edg) (w : Int) (f l : Bool) (x y : Int) : pieceIn e w f l x y = (onA (armU e x y) (armK e x y) (armL e) w || ((f && aheadA (armU e x y) (armK e x y) (armL e) w) || (l && behindA (armU e x y) (armK e x y) (armL e) w))) := by
  have h0 := armL_nn e
  have hp : pieceIn e w f l x y = (decide (4 * (armK e x y * armK e x y) ≤ w * w * armL e) && ((decide (0 ≤ armU e x y) || (f && decide (4 * (armU e x y * armU e x y) ≤ w * w * armL e))) && (decide (armU e x y ≤ armL e) || (l && decide (4 * ((armU e x y - armL e) * (armU e x y - armL e)) ≤ w * w * armL e))))) := rfl
  rw [hp]
  unfold onA aheadA behindA nearA
  generalize armU e x y = U at *
  generalize armK e x y = K at *
  generalize armL e = L at *
  generalize decide (4 * (K * K) ≤ w * w * L) = nb
  generalize decide (4 * (U * U) ≤ w * w * L) = ab
  generalize decide (4 * ((U - L) * (U - L)) ≤ w * w * L) = bb
  rcases (by omega : U < 0 ∨ (U = 0 ∧ U ≤ L) ∨ (0 < U ∧ U < L) ∨ (0 < U ∧ U = L) ∨ (0 < U ∧ L < U)) with h | ⟨h, h2⟩ | ⟨h, h2⟩ | ⟨h, h2⟩ | ⟨h, h2⟩
  · rw [decide_eq_false (show ¬ 0 ≤ U by omega), decide_eq_true (show U ≤ L by omega), decide_eq_true (show U ≤ 0 by omega), decide_eq_false (show ¬ L ≤ U by omega)]
    cases nb <;> cases f <;> cases l <;> cases ab <;> rfl
  · rw [decide_eq_true (show 0 ≤ U by omega), decide_eq_true (show U ≤ L by omega)]
    cases nb <;> simp
  · rw [decide_eq_true (show 0 ≤ U by omega), decide_eq_true (show U ≤ L by omega)]
    cases nb <;> simp
  · rw [decide_eq_true (show 0 ≤ U by omega), decide_eq_true (show U ≤ L by omega)]
    cases nb <;> simp
  · rw [decide_eq_true (show 0 ≤ U by omega), decide_eq_false (show ¬ U ≤ L by omega), decide_eq_false (show ¬ U ≤ 0 by omega), decide_eq_true (show L ≤ U by omega)]
    cases nb <;> cases f <;> cases l <;> cases bb <;> rfl
theorem cov_piece (e : Edg) (w : Int) (f l : Bool) (x y : Int) : covS ⟨e, w, f, l, 0⟩ x y = pieceIn e w f l x y := rfl
theorem cov_disc (px py w x y : Int) : covS (around 1 px py w) x y = discIn px py w x y := rfl
theorem cov_square (px py w x y : Int) : covS (around 2 px py w) x y = squareIn px py w x y := rfl
/-- what the shapes of one piece cover -/
theorem shapesE_any (sh : Bool) (s : Sty) (n i : Nat) (e : Edg) (x y : Int) : ((shapesE sh s n i e).any fun q => covS q x y) =
    (onA (armU e x y) (armK e x y) (armL e) s.wide || ((((decide (i = 0) && !sh) && decide (s.cap = 2)) && aheadA (armU e x y) (armK e x y) (armL e) s.wide) || (((decide (i + 1 = n) && !sh) && decide (s.cap = 2)) && behindA (armU e x y) (armK e x y) (armL e) s.wide)) ||
     (((((decide (i = 0) && !sh) && decide (s.cap = 1)) || (!(decide (i = 0) && !sh) && decide (s.join = 1))) && discIn e.x0 e.y0 s.wide x y) || (((decide (i + 1 = n) && !sh) && decide (s.cap = 1)) && discIn e.x1 e.y1 s.wide x y))) := by
  unfold shapesE
  rw [List.any_append, List.any_append, List.any_cons, List.any_nil, Bool.or_false, cov_piece, piece_arm]
  congr 1
  congr 1
  · generalize (((decide (i = 0) && !sh) && decide (s.cap = 1)) || (!(decide (i = 0) && !sh) && decide (s.join = 1))) = b
    cases b
    · rfl
    · rw [if_pos rfl, List.any_cons, List.any_nil, Bool.or_false, cov_disc, Bool.true_and]
  · generalize ((decide (i + 1 = n) && !sh) && decide (s.cap = 1)) = b
    cases b
    · rfl
    · rw [if_pos rfl, List.any_cons, List.any_nil, Bool.or_false, cov_disc, Bool.true_and]
theorem covers_law (c : Ct) (s : Sty) (x y : Int) : coversR c s x y = covL (shapesC s c) x y := by
  unfold coversR covL shapesC
  by_cases h0 : (piecesC c).length = 0
  · rw [if_pos h0, if_pos h0, h0, show shapesL c.shut s (piecesC c) 0 = [] from rfl, List.append_nil]
    unfold isDot dotS
    rw [decide_eq_true h0, Bool.true_and]
    by_cases h1 : c.edges.length = 0 ∧ c.shut = false
    · rw [if_pos h1, h1.1, h1.2]
      rfl
    · rw [if_neg h1, if_pos (by
        cases hs : c.shut
        · simp only [Bool.false_or, decide_eq_true_eq]
          exact (Nat.eq_zero_or_pos c.edges.length).elim (fun h => absurd ⟨h, hs⟩ h1) id
        · rfl)]
      unfold dotIn
      by_cases c1 : s.cap = 1
      · rw [if_pos c1, if_pos c1, List.any_cons, List.any_nil, Bool.or_false, cov_disc]
      · rw [if_neg c1, if_neg c1]
        by_cases c2 : s.cap = 2
        · rw [if_pos c2, if_pos c2, List.any_cons, List.any_nil, Bool.or_false, cov_square]
        · rw [if_neg c2, if_neg c2]
          rfl
  · rw [if_neg h0, if_neg h0, List.nil_append, if_neg (by unfold isDot; rw [decide_eq_false h0]; simp)]
    generalize piecesC c = P at *
    generalize c.shut = sh at *
    rw [Bool.eq_iff_iff]
    unfold shapesL
    rw [List.any_flatMap]
    simp only [shapesE_any]
    simp only [Bool.or_eq_true, List.any_eq_true, List.mem_range, Bool.and_eq_true, Bool.not_eq_true', decide_eq_true_eq]
    constructor
    · rintro (⟨k, hk, h⟩ | ⟨hs, h⟩)
      · refine ⟨k, hk, ?_⟩
        unfold onB at h
        simp only [Bool.or_eq_true, Bool.and_eq_true, decide_eq_true_eq] at h
        rcases h with h | ⟨⟨h1, h2⟩, h3⟩
        · exact .inl (.inl h)
        · refine .inr (.inl ⟨.inr ⟨?_, h1⟩, h3⟩)
          cases sh
          · rcases h2 with h2 | h2
            · simp; omega
            · cases h2
          · simp
      · subst hs
        unfold endsIn at h
        split at h
        · rename_i c1
          simp only [Bool.or_eq_true] at h
          rcases h with h | h
          · exact ⟨0, by omega, .inr (.inl ⟨.inl ⟨⟨rfl, rfl⟩, c1⟩, h⟩)⟩
          · exact ⟨P.length - 1, by omega, .inr (.inr ⟨⟨⟨by omega, rfl⟩, c1⟩, h⟩)⟩
        · split at h
          · rename_i c2
            simp only [Bool.or_eq_true] at h
            rcases h with h | h
            · exact ⟨0, by omega, .inl (.inr (.inl ⟨⟨⟨rfl, rfl⟩, c2⟩, h⟩))⟩
            · exact ⟨P.length - 1, by omega, .inl (.inr (.inr ⟨⟨⟨by omega, rfl⟩, c2⟩, h⟩))⟩
          · cases h
    · rintro ⟨k, hk, h⟩
      rcases h with (h | ⟨⟨⟨h1, h2⟩, h3⟩, h4⟩ | ⟨⟨⟨h1, h2⟩, h3⟩, h4⟩) | ⟨h, h4⟩ | ⟨⟨⟨h1, h2⟩, h3⟩, h4⟩
      · refine .inl ⟨k, hk, ?_⟩
        unfold onB
        rw [h]; rfl
      · subst h1
        refine .inr ⟨h2, ?_⟩
        unfold endsIn
        rw [if_neg (by omega), if_pos h3, h4]; rfl
      · refine .inr ⟨h2, ?_⟩
        unfold endsIn
        rw [if_neg (by omega), if_pos h3, show P.length - 1 = k by omega, h4]; simp
      · rcases h with ⟨⟨h1, h2⟩, h3⟩ | ⟨h1, h2⟩
        · subst h1
          refine .inr ⟨h2, ?_⟩
          unfold endsIn
          rw [if_pos h3, h4]; rfl
        · refine .inl ⟨k, hk, ?_⟩
          unfold onB
          rw [h4, h2]
          have : (decide (0 < k) || sh) = true := by
            cases sh
            · simp at h1; simp; omega
            · simp
          rw [this]; simp
      · refine .inr ⟨h2, ?_⟩
        unfold endsIn
        rw [if_pos h3, show P.length - 1 = k by omega, h4]; simp
theorem rCoversL_calls (w : World) (v : Value) (c : Ct) (hv : EdgesAt w v c.edges) (hlen : c.edges.length ≤ 300) (hg : GoodC c) (s : Sty) (hs : mayY s = true) (x y : Int) (hx : -8191 ≤ x ∧ x ≤ 8191) (hy : -8191 ≤ y ∧ y ≤ 8191) :
    Calls Try.prog 44 #[.agg #[.int .i64 c.x, .int .i64 c.y, v, .bool c.shut], .agg #[.int .i64 s.wide, .int .i64 s.cap, .int .i64 s.join], .int .i64 x, .int .i64 y] w fun e w' => e = .returned (.bool (covL (shapesC s c) x y)) ∧ Below w.heap.size w w' := by
  rw [← covers_law]
  exact rCovers_calls w v c hv hlen hg s hs x y hx hy
end Go.Proofs.Ytfnolaoohmecbaa
