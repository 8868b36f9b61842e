/- Strokes, plain: a single piece's lines are one run; joined, wider, reversed, moved paths. -/
import Derived.Test.YtfnolaoohmecbaaHmV
import Derived.Test.YtfnolaoohmecbaaShM
namespace Go.Proofs.Ytfnolaoohmecbaa
open Go.RowKit

def pieceP (a b c d : Int) : List Sg := [⟨1, a, b, 0, 0⟩, ⟨2, c, d, 0, 0⟩]
theorem one_may {a b c d : Int} (h1 : NearP' a b) (h2 : NearP' c d) : pathMay (pieceP a b c d) = true ∧ straightS (pieceP a b c d) = true := by
  obtain ⟨⟨a1, a2⟩, a3, a4⟩ := h1
  obtain ⟨⟨b1, b2⟩, b3, b4⟩ := h2
  have h : pathMay (pieceP a b c d) = true := by
    unfold pathMay pieceP maySF maySF maySF rightS near1
    simp
    omega
  refine ⟨h, ?_⟩
  unfold straightS
  rw [h]
  rfl
theorem one_contours {a b c d : Int} (h1 : NearP' a b) (h2 : NearP' c d) : contoursS (pieceP a b c d) = [⟨a, b, [⟨a, b, false, 0, 0, c, d⟩], false⟩] := by
  unfold contoursS
  rw [if_pos (one_may h1 h2).1]
  rfl
theorem one_cvx {a b c d : Int} (h1 : NearP' a b) (h2 : NearP' c d) (s : Sty) (hc : s.cap = 0 ∨ s.cap = 1 ∨ s.cap = 2) (y : Int) : Cvx fun x => covL (allS (pieceP a b c d) s) x y = true := by
  obtain ⟨wd, cap, join⟩ := s
  dsimp only at hc
  unfold allS
  rw [one_contours h1 h2]
  simp only [List.flatMap_cons, List.flatMap_nil, List.append_nil]
  by_cases hg : a = c ∧ b = d
  · obtain ⟨rfl, rfl⟩ := hg
    have hp : piecesC ⟨a, b, [⟨a, b, false, 0, 0, a, b⟩], false⟩ = [] := by unfold piecesC shutE goes; simp
    unfold shapesC
    rw [hp]
    rcases hc with rfl | rfl | rfl
    · intro x1 x2 x3 _ _ h _
      exact absurd h (by unfold covL shapesL dotS; simp)
    · intro x1 x2 x3 e1 e2 h h'
      have k : ∀ x, covL ((if ([] : List Edg).length = 0 then dotS ⟨a, b, [⟨a, b, false, 0, 0, a, b⟩], false⟩ ⟨wd, 1, join⟩ else []) ++ shapesL false ⟨wd, 1, join⟩ [] 0) x y = discIn a b wd x y := by
        intro x; unfold covL shapesL dotS covS around; simp
      rw [List.length_nil] at *
      dsimp only at *
      rw [k] at *
      exact discIn_cvx a b wd y x1 x2 x3 e1 e2 h h'
    · intro x1 x2 x3 e1 e2 h h'
      have k : ∀ x, covL ((if ([] : List Edg).length = 0 then dotS ⟨a, b, [⟨a, b, false, 0, 0, a, b⟩], false⟩ ⟨wd, 2, join⟩ else []) ++ shapesL false ⟨wd, 2, join⟩ [] 0) x y = squareIn a b wd x y := by
        intro x; unfold covL shapesL dotS covS around; simp
      rw [List.length_nil] at *
      dsimp only at *
      rw [k] at *
      exact squareIn_cvx a b wd y x1 x2 x3 e1 e2 h h'
  · have hp : piecesC ⟨a, b, [⟨a, b, false, 0, 0, c, d⟩], false⟩ = [⟨a, b, false, 0, 0, c, d⟩] := by
      unfold piecesC shutE goes
      rcases Classical.not_and_iff_not_or_not.1 hg with h | h <;> simp [h]
    have hl : 0 < (c - a) * (c - a) + (d - b) * (d - b) := by
      have nn : ∀ t : Int, 0 ≤ t * t := fun t => by rw [← Int.natAbs_mul_self]; omega
      have n1 := nn (c - a)
      have n2 := nn (d - b)
      have pp : ∀ t : Int, t ≠ 0 → 0 < t * t := fun t ht => by
        have := Int.natAbs_pos.2 ht
        rw [← Int.natAbs_mul_self]
        exact_mod_cast Nat.mul_pos this this
      rcases Classical.not_and_iff_not_or_not.1 hg with h | h
      · have := pp (c - a) (by omega); omega
      · have := pp (d - b) (by omega); omega
    unfold shapesC
    rw [hp]
    rcases hc with rfl | rfl | rfl
    · intro x1 x2 x3 e1 e2 h h'
      have k : ∀ x, covL ((if ([⟨a, b, false, 0, 0, c, d⟩] : List Edg).length = 0 then dotS ⟨a, b, [⟨a, b, false, 0, 0, c, d⟩], false⟩ ⟨wd, 0, join⟩ else []) ++ shapesL false ⟨wd, 0, join⟩ [⟨a, b, false, 0, 0, c, d⟩] 1) x y = pieceIn ⟨a, b, false, 0, 0, c, d⟩ wd false false x y := by
        intro x; unfold covL shapesL shapesE covS; simp [List.range_succ]
      dsimp only at *
      erw [k] at *
      exact pieceIn_cvx _ wd false false y x1 x2 x3 e1 e2 h h'
    · intro x1 x2 x3 e1 e2 h h'
      have k : ∀ x, covL ((if ([⟨a, b, false, 0, 0, c, d⟩] : List Edg).length = 0 then dotS ⟨a, b, [⟨a, b, false, 0, 0, c, d⟩], false⟩ ⟨wd, 1, join⟩ else []) ++ shapesL false ⟨wd, 1, join⟩ [⟨a, b, false, 0, 0, c, d⟩] 1) x y = true ↔ 4 * stadG ⟨a, b, false, 0, 0, c, d⟩ x y ≤ wd * wd * ((c - a) * (c - a) + (d - b) * (d - b)) := by
        intro x
        rw [← stad_iff (e := ⟨a, b, false, 0, 0, c, d⟩) hl]
        unfold covL shapesL shapesE covS around
        simp [List.range_succ]
      dsimp only at *
      erw [k] at *
      exact stad_cvx _ y _ x1 x2 x3 e1 e2 h h'
    · intro x1 x2 x3 e1 e2 h h'
      have k : ∀ x, covL ((if ([⟨a, b, false, 0, 0, c, d⟩] : List Edg).length = 0 then dotS ⟨a, b, [⟨a, b, false, 0, 0, c, d⟩], false⟩ ⟨wd, 2, join⟩ else []) ++ shapesL false ⟨wd, 2, join⟩ [⟨a, b, false, 0, 0, c, d⟩] 1) x y = pieceIn ⟨a, b, false, 0, 0, c, d⟩ wd true true x y := by
        intro x; unfold covL shapesL shapesE covS; simp [List.range_succ]
      dsimp only at *
      erw [k] at *
      exact pieceIn_cvx _ wd true true y x1 x2 x3 e1 e2 h h'

/-! joined paths -/
theorem fold_of_may {l : List Sg} (h : pathMay l = true) : contoursS l = ctFold l [] none 0 0 := by unfold contoursS; rw [h]; rfl
theorem join_any {α : Type} (G : Ct → List α) (hG : ∀ x y, G ⟨x, y, [], false⟩ = []) {l m : List Sg} (hl : pathMay l = true) (hm : pathMay m = true) (hlen : l.length + m.length ≤ 300) : (contoursS (joinS l m)).flatMap G = (contoursS l).flatMap G ++ (contoursS m).flatMap G := by
  have hmayj := (join_law hl hm hlen).1
  have hl2 : l.length ≤ 300 ∧ maySF 0 l = true := by simpa [pathMay] using hl
  have hm2 : m.length ≤ 300 ∧ maySF 0 m = true := by simpa [pathMay] using hm
  have hmove : ∀ s r, m = s :: r → s.kind = 1 := by
    intro s r e
    have := hm2.2
    rw [e, maySF, Bool.and_eq_true] at this
    exact rightS_first this.1
  obtain ⟨p, hp⟩ : ∃ p, (if lastS l = 1 ∧ m ≠ [] then l.take (l.length - 1) else l) = p := ⟨_, rfl⟩
  have hkey : (ctFold p [] none 0 0).flatMap G = (ctFold l [] none 0 0).flatMap G := by
    by_cases hc : lastS l = 1 ∧ m ≠ []
    · rw [if_pos hc] at hp
      rcases List.eq_nil_or_concat l with h0 | ⟨q, s, h0⟩
      · exfalso
        have := hc.1
        rw [h0] at this
        exact absurd (show (0 : Int) = 1 from this) (by decide)
      · rw [List.concat_eq_append] at h0
        have hpq : p = q := by rw [← hp, h0]; simp
        have hk : s.kind = 1 := by
          have := hc.1
          rw [lastS_eq, h0] at this
          simpa using this
        rw [hpq, h0, ctFold_two (m := [s]) (by intro a r e; cases e; exact hk)]
        rw [List.flatMap_append, ctFold.eq_def [s]]
        dsimp only
        rw [if_pos hk, ctFold.eq_def []]
        dsimp only
        simp [hG]
    · rw [if_neg hc] at hp
      subst hp
      rfl
  rw [fold_of_may hmayj, fold_of_may hl, fold_of_may hm]
  unfold joinS
  rw [hp, ctFold_two hmove, List.flatMap_append, hkey]
theorem shapes_none (s : Sty) (x y : Int) : shapesC s ⟨x, y, [], false⟩ = [] := by
  have hp : piecesC ⟨x, y, [], false⟩ = [] := by unfold piecesC shutE; simp
  unfold shapesC
  rw [hp]
  unfold dotS shapesL
  simp
theorem allS_join (s : Sty) {l m : List Sg} (hl : pathMay l = true) (hm : pathMay m = true) (hlen : l.length + m.length ≤ 300) (x y : Int) : covL (allS (joinS l m) s) x y = (covL (allS l s) x y || covL (allS m s) x y) := by
  unfold allS
  rw [join_any (shapesC s) (shapes_none s) hl hm hlen]
  unfold covL
  rw [List.any_append]
theorem straight_join {l m : List Sg} (hl : straightS l = true) (hm : straightS m = true) (hlen : l.length + m.length ≤ 300) : straightS (joinS l m) = true := by
  unfold straightS at *
  simp only [Bool.and_eq_true] at hl hm ⊢
  refine ⟨(join_law hl.1 hm.1 hlen).1, ?_⟩
  unfold joinS
  rw [List.all_append, Bool.and_eq_true]
  refine ⟨?_, hm.2⟩
  split
  · rw [List.all_eq_true] at hl ⊢
    exact fun x hx => hl.2 x (List.mem_of_mem_take hx)
  · exact hl.2
end Go.Proofs.Ytfnolaoohmecbaa
