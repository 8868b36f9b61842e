/- Strokes, plain: moved paths; how far a stroke reaches. -/
import Derived.Test.YtmnoeoecjfhhbaaGreatHmV4
namespace Go.Proofs.YtmnoeoecjfhhbaaGreat
open Go.RowKit

theorem moved_contours {dx dy : Int} {l : List Sg} (h : ∀ s ∈ l, nearS s = true ∧ nearS (moveS dx dy s) = true) : contoursS (l.map (moveS dx dy)) = (contoursS l).map (movC dx dy) := by
  have hm : pathMay (l.map (moveS dx dy)) = pathMay l := by unfold pathMay; rw [List.length_map, maySF_move l 0 h]
  unfold contoursS
  rw [hm]
  split
  · rw [ctFold_none _ _ 0 0 (0 + dx) (0 + dy)]
    exact ctFold_move dx dy l [] none 0 0
  · rfl
theorem movE_pts (dx dy : Int) (e : Edg) : (movE dx dy e).x0 = e.x0 + dx ∧ (movE dx dy e).y0 = e.y0 + dy ∧ (movE dx dy e).x1 = e.x1 + dx ∧ (movE dx dy e).y1 = e.y1 + dy := by
  unfold movE; split <;> exact ⟨rfl, rfl, rfl, rfl⟩
theorem pieceIn_move (dx dy : Int) (e : Edg) (w : Int) (f l : Bool) (x y : Int) : pieceIn (movE dx dy e) w f l x y = pieceIn e w f l (x - dx) (y - dy) := by
  obtain ⟨h1, h2, h3, h4⟩ := movE_pts dx dy e
  unfold pieceIn
  rw [h1, h2, h3, h4]
  rw [show x - (e.x0 + dx) = x - dx - e.x0 by omega, show y - (e.y0 + dy) = y - dy - e.y0 by omega, show e.x1 + dx - (e.x0 + dx) = e.x1 - e.x0 by omega, show e.y1 + dy - (e.y0 + dy) = e.y1 - e.y0 by omega]
theorem discIn_move (dx dy px py w x y : Int) : discIn (px + dx) (py + dy) w x y = discIn px py w (x - dx) (y - dy) := by
  unfold discIn
  rw [show x - (px + dx) = x - dx - px by omega, show y - (py + dy) = y - dy - py by omega]
theorem squareIn_move (dx dy px py w x y : Int) : squareIn (px + dx) (py + dy) w x y = squareIn px py w (x - dx) (y - dy) := by
  unfold squareIn
  rw [show x - (px + dx) = x - dx - px by omega, show y - (py + dy) = y - dy - py by omega, show px + dx - x = px - (x - dx) by omega, show py + dy - y = py - (y - dy) by omega]
theorem goes_move (dx dy : Int) (e : Edg) : goes (movE dx dy e) = goes e := by
  obtain ⟨h1, h2, h3, h4⟩ := movE_pts dx dy e
  unfold goes
  rw [h1, h2, h3, h4]
  congr 1 <;> exact decide_eq_decide.2 (by omega)
theorem posE_move (dx dy : Int) : ∀ (l : List Edg) (x y : Int), posE (x + dx) (y + dy) (l.map (movE dx dy)) = ((posE x y l).1 + dx, (posE x y l).2 + dy)
  | [], _, _ => rfl
  | e :: l, x, y => by
    obtain ⟨_, _, h3, h4⟩ := movE_pts dx dy e
    rw [List.map_cons, posE, h3, h4, posE_move dx dy l, posE]
theorem pieces_move (dx dy : Int) (c : Ct) : piecesC (movC dx dy c) = (piecesC c).map (movE dx dy) := by
  unfold piecesC
  rw [List.map_append]
  congr 1
  · unfold movC
    rw [List.filter_map]
    congr 1
    congr 1
    funext e
    exact goes_move dx dy e
  · unfold shutE movC
    dsimp only
    rw [posE_move]
    dsimp only
    by_cases h : c.shut = true ∧ ((posE c.x c.y c.edges).1 ≠ c.x ∨ (posE c.x c.y c.edges).2 ≠ c.y)
    · rw [if_pos h, if_pos ⟨h.1, by omega⟩]
      rfl
    · rw [if_neg h, if_neg (fun k => h ⟨k.1, by omega⟩)]
      rfl
theorem shapesC_move (dx dy : Int) (s : Sty) (c : Ct) (x y : Int) : covL (shapesC s (movC dx dy c)) x y = covL (shapesC s c) (x - dx) (y - dy) := by
  have hl : (piecesC (movC dx dy c)).length = (piecesC c).length := by rw [pieces_move, List.length_map]
  unfold shapesC
  unfold covL
  rw [List.any_append, List.any_append, hl]
  congr 1
  · split
    · unfold dotS movC
      dsimp only
      rw [List.length_map]
      split
      · rfl
      · split
        · simp [covS, around, discIn_move]
        · split
          · simp [covS, around, squareIn_move]
          · rfl
    · rfl
  · show covL (shapesL c.shut s (piecesC (movC dx dy c)) (piecesC c).length) x y = covL (shapesL c.shut s (piecesC c) (piecesC c).length) (x - dx) (y - dy)
    rw [← hl]
    conv => rhs; rw [hl]
    rw [Bool.eq_iff_iff, covP_iff, covP_iff]
    have key : ∀ i (h : i < (piecesC c).length) (h2 : i < (piecesC (movC dx dy c)).length), covL (shapesE c.shut s (piecesC (movC dx dy c)).length i (piecesC (movC dx dy c))[i]) x y = true ↔ covL (shapesE c.shut s (piecesC c).length i (piecesC c)[i]) (x - dx) (y - dy) = true := by
      intro i h h2
      have e : (piecesC (movC dx dy c))[i] = movE dx dy (piecesC c)[i] := by
        have : ∀ (M : List Edg) (hM : M = (piecesC c).map (movE dx dy)) (k : i < M.length), M[i] = movE dx dy (piecesC c)[i] := by intro M hM k; subst hM; simp
        exact this _ (pieces_move dx dy c) h2
      obtain ⟨h1, h2', h3, h4⟩ := movE_pts dx dy (piecesC c)[i]
      rw [covE_iff, covE_iff, e, pieceIn_move, h1, h2', h3, h4, discIn_move, discIn_move, hl]
    constructor
    · rintro ⟨i, hi, h⟩; exact ⟨i, by omega, (key i (by omega) hi).1 h⟩
    · rintro ⟨i, hi, h⟩; exact ⟨i, by omega, (key i hi (by omega)).2 h⟩
theorem moved_cov {dx dy : Int} {l : List Sg} (h : ∀ s ∈ l, nearS s = true ∧ nearS (moveS dx dy s) = true) (s : Sty) (x y : Int) : covL (allS (l.map (moveS dx dy)) s) x y = covL (allS l s) (x - dx) (y - dy) := by
  unfold allS
  rw [moved_contours h]
  unfold covL
  rw [List.any_flatMap, List.any_flatMap, List.any_map]
  generalize contoursS l = cs
  induction cs with
  | nil => rfl
  | cons c cs ih =>
    rw [List.any_cons, List.any_cons, ih]
    congr 1
    exact shapesC_move dx dy s c x y
/-! how far a stroke reaches -/
end Go.Proofs.YtmnoeoecjfhhbaaGreat
