/- Strokes, plain: moved paths; how far a stroke reaches. -/
import Derived.Test.YtfnolaoohmecbaaHmV4
namespace Go.Proofs.Ytfnolaoohmecbaa
open Go.RowKit

theorem moved_contours {dx dy : Int} {l : List Sg} (h : ∀ s ∈ l, nearS s = true ∧ nearS (moveS dx dy s) = true) : contoursS (l.map (moveS dx dy)) = (contoursS l).map (movC dx dy) := by
  have hm : pathMay (l.map (moveS dx dy)) = pathMay l := by unfold pathMay; rw [List.length_map, maySF_move l 0 h]
  unfold contoursS
  rw [hm]
  split
  · rw [ctFold_none _ _ 0 0 (0 + dx) (0 + dy)]
    exact ctFold_move dx dy l [] none 0 0
  · rfl
theorem movE_pts (dx dy : Int) (e : Edg) : (movE dx dy e).x0 = e.x0 + dx ∧ (movE dx dy e).y0 = e.y0 + dy ∧ (movE dx dy e).x1 = e.x1 + dx ∧ (movE dx dy e).y1 = e.y1 + dy := by
  unfold movE; split <;> exact ⟨rfl, rfl, rfl, rfl⟩
theorem pieceIn_move (dx dy : Int) (e : Edg) (w : Int) (f l : Bool) (x y : Int) : pieceIn (movE dx dy e) w f l x y = pieceIn e w f l (x - dx) (y - dy) := by
  obtain ⟨h1, h2, h3, h4⟩ := movE_pts dx dy e
  unfold pieceIn
  rw [h1, h2, h3, h4]
  rw [show x - (e.x0 + dx) = x - dx - e.x0 by omega, show y - (e.y0 + dy) = y - dy - e.y0 by omega, show e.x1 + dx - (e.x0 + dx) = e.x1 - e.x0 by omega, show e.y1 + dy - (e.y0 + dy) = e.y1 - e.y0 by omega]
theorem discIn_move (dx dy px py w x y : Int) : discIn (px + dx) (py + dy) w x y = discIn px py w (x - dx) (y - dy) := by
  unfold discIn
  rw [show x - (px + dx) = x - dx - px by omega, show y - (py + dy) = y - dy - py by omega]
theorem squareIn_move (dx dy px py w x y : Int) : squareIn (px + dx) (py + dy) w x y = squareIn px py w (x - dx) (y - dy) := by
  unfold squareIn
  rw [show x - (px + dx) = x - dx - px by omega, show y - (py + dy) = y - dy - py by omega, show px + dx - x = px - (x - dx) by omega, show py + dy - y = py - (y - dy) by omega]
theorem goes_move (dx dy : Int) (e : Edg) : goes (movE dx dy e) = goes e := by
  obtain ⟨h1, h2, h3, h4⟩ := movE_pts dx dy e
  unfold goes
  rw [h1, h2, h3, h4]
  congr 1 <;> exact decide_eq_decide.2 (by omega)
theorem posE_move (dx dy : Int) : ∀ (l : List Edg) (x y : Int), posE (x + dx) (y + dy) (l.map (movE dx dy)) = ((posE x y l).1 + dx, (posE x y l).2 + dy)
  | [], _, _ => rfl
  | e :: l, x, y => by
    obtain ⟨_, _, h3, h4⟩ := movE_pts dx dy e
    rw [List.map_cons, posE, h3, h4, posE_move dx dy l, posE]
theorem pieces_move (dx dy : Int) (c : Ct) : piecesC (movC dx dy c) = (piecesC c).map (movE dx dy) := by
  unfold piecesC
  rw [List.map_append]
  congr 1
  · unfold movC
    rw [List.filter_map]
    congr 1
    congr 1
    funext e
    exact goes_move dx dy e
  · unfold shutE movC
    dsimp only
    rw [posE_move]
    dsimp only
    by_cases h : c.shut = true ∧ ((posE c.x c.y c.edges).1 ≠ c.x ∨ (posE c.x c.y c.edges).2 ≠ c.y)
    · rw [if_pos h, if_pos ⟨h.1, by omega⟩]
      rfl
    · rw [if_neg h, if_neg (fun k => h ⟨k.1, by omega⟩)]
      rfl
theorem shapesC_move (dx dy : Int) (s : Sty) (c : Ct) (x y : Int) : covL (shapesC s (movC dx dy c)) x y = covL (shapesC s c) (x - dx) (y - dy) := by
  have hl : (piecesC (movC dx dy c)).length = (piecesC c).length := by rw [pieces_move, List.length_map]
  unfold shapesC
  unfold covL
  rw [List.any_append, List.any_append, hl]
  congr 1
  · split
    · unfold dotS movC
      dsimp only
      rw [List.length_map]
      split
      · rfl
      · split
        · simp [covS, around, discIn_move]
        · split
          · simp [covS, around, squareIn_move]
          · rfl
    · rfl
  · show covL (shapesL c.shut s (piecesC (movC dx dy c)) (piecesC c).length) x y = covL (shapesL c.shut s (piecesC c) (piecesC c).length) (x - dx) (y - dy)
    rw [← hl]
    conv => rhs; rw [hl]
    rw [Bool.eq_iff_iff, covP_iff, covP_iff]
    have key : ∀ i (h : i < (piecesC c).length) (h2 : i < (piecesC (movC dx dy c)).length), covL (shapesE c.shut s (piecesC (movC dx dy c)).length i (piecesC (movC dx dy c))[i]) x y = true ↔ covL (shapesE c.shut s (piecesC c).length i (piecesC c)[i]) (x - dx) (y - dy) = true := by
      intro i h h2
      have e : (piecesC (movC dx dy c))[i] = movE dx dy (piecesC c)[i] := by
        have : ∀ (M : List Edg) (hM : M = (piecesC c).map (movE dx dy)) (k : i < M.length), M[i] = movE dx dy (piecesC c)[i] := by intro M hM k; subst hM; simp
        exact this _ (pieces_move dx dy c) h2
      obtain ⟨h1, h2', h3, h4⟩ := movE_pts dx dy (piecesC c)[i]
      rw [covE_iff, covE_iff, e, pieceIn_move, h1, h2', h3, h4, discIn_move, discIn_move, hl]
    constructor
    · rintro ⟨i, hi, h⟩; exact ⟨i, by omega, (key i (by omega) hi).1 h⟩
    · rintro ⟨i, hi, h⟩; exact ⟨i, by omega, (key i hi (by omega)).2 h⟩
theorem moved_cov {dx dy : Int} {l : List Sg} (h : ∀ s ∈ l, nearS s = true ∧ nearS (moveS dx dy s) = true) (s : Sty) (x y : Int) : covL (allS (l.map (moveS dx dy)) s) x y = covL (allS l s) (x - dx) (y - dy) := by
  unfold allS
  rw [moved_contours h]
  unfold covL
  rw [List.any_flatMap, List.any_flatMap, List.any_map]
  generalize contoursS l = cs
  induction cs with
  | nil => rfl
  | cons c cs ih =>
    rw [List.any_cons, List.any_cons, ih]
    congr 1
    exact shapesC_move dx dy s c x y
theorem moved_straight {dx dy : Int} {l : List Sg} (h : ∀ s ∈ l, nearS s = true ∧ nearS (moveS dx dy s) = true) : straightS (l.map (moveS dx dy)) = straightS l := by
  have hm : pathMay (l.map (moveS dx dy)) = pathMay l := by unfold pathMay; rw [List.length_map, maySF_move l 0 h]
  unfold straightS
  rw [hm, List.all_map]
  congr 2
  funext s
  show decide ((moveS dx dy s).kind ≠ 3) = _
  rw [moveS_kind]

/-! how far a stroke reaches -/
theorem cauchy_le {p q dx dy w : Int} (hw : 0 ≤ w) (h1 : 4 * (p * p) ≤ w * w * (dx * dx + dy * dy)) (h2 : 4 * (q * q) ≤ w * w * (dx * dx + dy * dy)) : -(w * (dx * dx + dy * dy)) ≤ p * dx + q * dy ∧ p * dx + q * dy ≤ w * (dx * dx + dy * dy) := by
  have nn : ∀ t : Int, 0 ≤ t * t := fun t => by rw [← Int.natAbs_mul_self]; omega
  have hl : 0 ≤ dx * dx + dy * dy := by have := nn dx; have := nn dy; omega
  have c := nn (p * dy - q * dx)
  have e : (p * dx + q * dy) * (p * dx + q * dy) = (p * p + q * q) * (dx * dx + dy * dy) - (p * dy - q * dx) * (p * dy - q * dx) := by grind
  have m := Int.mul_le_mul_of_nonneg_right (show 2 * (p * p + q * q) ≤ w * w * (dx * dx + dy * dy) by omega) hl
  have e2 : 2 * (p * p + q * q) * (dx * dx + dy * dy) = 2 * ((p * p + q * q) * (dx * dx + dy * dy)) := by grind
  have e3 : w * w * (dx * dx + dy * dy) * (dx * dx + dy * dy) = w * (dx * dx + dy * dy) * (w * (dx * dx + dy * dy)) := by grind
  have k := nn (p * dx + q * dy)
  have hh : (p * dx + q * dy) * (p * dx + q * dy) ≤ w * (dx * dx + dy * dy) * (w * (dx * dx + dy * dy)) := by omega
  have hp : 0 ≤ w * (dx * dx + dy * dy) := Int.mul_nonneg hw hl
  generalize p * dx + q * dy = A at *
  generalize w * (dx * dx + dy * dy) = B at *
  constructor
  · apply Int.not_lt.1
    intro h
    have := sqH_mono (a := B + 1) (b := -A) (by omega) (by omega)
    rw [Int.neg_mul_neg] at this
    have e : (B + 1) * (B + 1) = B * B + 2 * B + 1 := by grind
    omega
  · apply Int.not_lt.1
    intro h
    have := sqH_mono (a := B + 1) (b := A) (by omega) (by omega)
    have e : (B + 1) * (B + 1) = B * B + 2 * B + 1 := by grind
    omega
theorem div_pos_le {a b l : Int} (hl : 0 < l) (h : a * l ≤ b * l) : a ≤ b := (le_times hl).2 h
/-- along one axis: where a piece may reach -/
theorem reach_axis {v d p q w u k L : Int} (hw : 0 ≤ w) (hL : 0 < L) (hLe : L = d * d + p * p) (hid : v * L = u * d + k * (q * p)) (hq : q = 1 ∨ q = -1) (hk : 4 * (k * k) ≤ w * w * L) (h0 : 0 ≤ u ∨ 4 * (u * u) ≤ w * w * L) (h1 : u ≤ L ∨ 4 * ((u - L) * (u - L)) ≤ w * w * L) : min 0 d - w ≤ v ∧ v ≤ max 0 d + w := by
  have nn : ∀ t : Int, 0 ≤ t * t := fun t => by rw [← Int.natAbs_mul_self]; omega
  have hwL : 0 ≤ w * w * L := Int.mul_nonneg (nn w) (by omega)
  have hqq : (q * p) * (q * p) = p * p := by rcases hq with h | h <;> subst h <;> grind
  have hL2 : d * d + (q * p) * (q * p) = L := by rw [hqq, hLe]
  -- the part below 0, and the part beyond L
  obtain ⟨a, ha, ha1, ha2⟩ : ∃ a, a ≤ u ∧ a ≤ 0 ∧ 4 * (a * a) ≤ w * w * L := by
    rcases h0 with h | h
    · exact ⟨0, h, Int.le_refl _, by omega⟩
    · rcases Int.le_total u 0 with g | g
      · exact ⟨u, Int.le_refl _, g, h⟩
      · exact ⟨0, g, Int.le_refl _, by omega⟩
  obtain ⟨b, hb, hb1, hb2⟩ : ∃ b, u - L ≤ b ∧ 0 ≤ b ∧ 4 * (b * b) ≤ w * w * L := by
    rcases h1 with h | h
    · exact ⟨0, by omega, Int.le_refl _, by omega⟩
    · rcases Int.le_total (u - L) 0 with g | g
      · exact ⟨0, g, Int.le_refl _, by omega⟩
      · exact ⟨u - L, Int.le_refl _, g, h⟩
  have ca := cauchy_le (p := a) (q := k) (dx := d) (dy := q * p) hw (by rw [hL2]; exact ha2) (by rw [hL2]; exact hk)
  have cb := cauchy_le (p := b) (q := k) (dx := d) (dy := q * p) hw (by rw [hL2]; exact hb2) (by rw [hL2]; exact hk)
  rw [hL2] at ca cb
  rcases Int.le_total 0 d with hd | hd
  · have m1 := Int.mul_le_mul_of_nonneg_right ha hd
    have m2 := Int.mul_le_mul_of_nonneg_right hb hd
    constructor
    · refine Int.le_trans (show min 0 d - w ≤ -w by omega) (div_pos_le hL ?_)
      rw [Int.neg_mul]; omega
    · refine Int.le_trans (div_pos_le (b := d + w) hL ?_) (show d + w ≤ max 0 d + w by omega)
      rw [Int.add_mul]
      have e : (u - L) * d = u * d - d * L := by grind
      omega
  · have m1 := Int.mul_le_mul_of_nonpos_right ha hd
    have m2 := Int.mul_le_mul_of_nonpos_right hb hd
    constructor
    · refine Int.le_trans (show min 0 d - w ≤ d - w by omega) (div_pos_le hL ?_)
      rw [Int.sub_mul]
      have e : (u - L) * d = u * d - d * L := by grind
      omega
    · refine Int.le_trans (div_pos_le (b := w) hL ?_) (show w ≤ max 0 d + w by omega)
      omega
theorem goes_pos {e : Edg} (h : goes e = true) : 0 < (e.x1 - e.x0) * (e.x1 - e.x0) + (e.y1 - e.y0) * (e.y1 - e.y0) := by
  have nn : ∀ t : Int, 0 ≤ t * t := fun t => by rw [← Int.natAbs_mul_self]; omega
  have n1 := nn (e.x1 - e.x0)
  have n2 := nn (e.y1 - e.y0)
  have pp : ∀ t : Int, t ≠ 0 → 0 < t * t := fun t ht => by
    have := Int.natAbs_pos.2 ht
    rw [← Int.natAbs_mul_self]
    exact_mod_cast Nat.mul_pos this this
  unfold goes at h
  simp only [Bool.or_eq_true, decide_eq_true_eq] at h
  rcases h with h | h
  · have := pp (e.x1 - e.x0) (by omega); omega
  · have := pp (e.y1 - e.y0) (by omega); omega
theorem piece_reach {e : Edg} {w x y : Int} {f l : Bool} (hw : 0 ≤ w) (hg : goes e = true) (h : pieceIn e w f l x y = true) : (min e.x0 e.x1 - w ≤ x ∧ x ≤ max e.x0 e.x1 + w) ∧ (min e.y0 e.y1 - w ≤ y ∧ y ≤ max e.y0 e.y1 + w) := by
  have hL := goes_pos hg
  unfold pieceIn at h
  simp only [Bool.and_eq_true, Bool.or_eq_true, decide_eq_true_eq] at h
  obtain ⟨hk, h0, h1⟩ := h
  have i1 : (x - e.x0) * ((e.x1 - e.x0) * (e.x1 - e.x0) + (e.y1 - e.y0) * (e.y1 - e.y0)) = ((x - e.x0) * (e.x1 - e.x0) + (y - e.y0) * (e.y1 - e.y0)) * (e.x1 - e.x0) + ((x - e.x0) * (e.y1 - e.y0) - (y - e.y0) * (e.x1 - e.x0)) * (1 * (e.y1 - e.y0)) := by grind
  have i2 : (y - e.y0) * ((e.x1 - e.x0) * (e.x1 - e.x0) + (e.y1 - e.y0) * (e.y1 - e.y0)) = ((x - e.x0) * (e.x1 - e.x0) + (y - e.y0) * (e.y1 - e.y0)) * (e.y1 - e.y0) + ((x - e.x0) * (e.y1 - e.y0) - (y - e.y0) * (e.x1 - e.x0)) * (-1 * (e.x1 - e.x0)) := by grind
  have k0 := h0.imp_right And.right
  have k1 := h1.imp_right And.right
  have r1 := reach_axis hw hL rfl i1 (.inl rfl) hk k0 k1
  have r2 := reach_axis hw hL (by omega) i2 (.inr rfl) hk k0 k1
  omega
theorem disc_reach {px py w x y : Int} (hw : 0 ≤ w) (h : discIn px py w x y = true) : (px - w ≤ x ∧ x ≤ px + w) ∧ (py - w ≤ y ∧ y ≤ py + w) := by
  have nn : ∀ t : Int, 0 ≤ t * t := fun t => by rw [← Int.natAbs_mul_self]; omega
  unfold discIn at h
  rw [decide_eq_true_eq] at h
  have n1 := nn (x - px)
  have n2 := nn (y - py)
  have key : ∀ t : Int, t * t ≤ w * w → -w ≤ t ∧ t ≤ w := by
    intro t ht
    have big : ∀ r : Int, w < r → ¬ r * r ≤ w * w := fun r hr h2 => by
      have h1 := Int.mul_nonneg (show 0 ≤ r - w - 1 by omega) (show 0 ≤ r + w by omega)
      have e : (r - w - 1) * (r + w) = r * r - w * w - r - w := by grind
      omega
    constructor
    · apply Int.not_lt.1; intro h2; exact big (-t) (by omega) (by rw [Int.neg_mul_neg]; exact ht)
    · apply Int.not_lt.1; intro h2; exact big t h2 ht
  have a := key (x - px) (by omega)
  have b := key (y - py) (by omega)
  omega
theorem square_reach {px py w x y : Int} (hw : 0 ≤ w) (h : squareIn px py w x y = true) : (px - w ≤ x ∧ x ≤ px + w) ∧ (py - w ≤ y ∧ y ≤ py + w) := by
  unfold squareIn at h
  simp only [Bool.and_eq_true, decide_eq_true_eq] at h
  omega
def InBox (lo hi x y : Int) : Prop := (lo ≤ x ∧ x ≤ hi) ∧ (lo ≤ y ∧ y ≤ hi)
def BoxC (lo hi : Int) (c : Ct) : Prop := InBox lo hi c.x c.y ∧ ∀ e ∈ c.edges, InBox lo hi e.x0 e.y0 ∧ InBox lo hi e.x1 e.y1
theorem posE_box {lo hi : Int} : ∀ (l : List Edg) (x y : Int), InBox lo hi x y → (∀ e ∈ l, InBox lo hi e.x0 e.y0 ∧ InBox lo hi e.x1 e.y1) → InBox lo hi (posE x y l).1 (posE x y l).2
  | [], _, _, h, _ => h
  | e :: r, _, _, _, hl => posE_box r _ _ (hl e List.mem_cons_self).2 fun a ha => hl a (List.mem_cons_of_mem _ ha)
theorem pieces_box {lo hi : Int} {c : Ct} (h : BoxC lo hi c) : ∀ e ∈ piecesC c, goes e = true ∧ InBox lo hi e.x0 e.y0 ∧ InBox lo hi e.x1 e.y1 := by
  intro e he
  unfold piecesC at he
  rcases List.mem_append.1 he with he | he
  · have := List.mem_filter.1 he
    exact ⟨this.2, h.2 e this.1⟩
  · unfold shutE at he
    split at he
    · rename_i hs
      rw [List.mem_singleton.1 he]
      refine ⟨?_, posE_box _ _ _ h.1 h.2, h.1⟩
      unfold goes
      simp only [Bool.or_eq_true, decide_eq_true_eq]
      exact hs.2
    · cases he
theorem shapesC_reach {lo hi : Int} {c : Ct} (h : BoxC lo hi c) (s : Sty) (hw : 0 ≤ s.wide) {x y : Int} (hc : covL (shapesC s c) x y = true) : InBox (lo - s.wide) (hi + s.wide) x y := by
  unfold shapesC covL at hc
  rw [List.any_append, Bool.or_eq_true] at hc
  unfold BoxC InBox at *
  rcases hc with hc | hc
  · split at hc
    · unfold dotS at hc
      split at hc
      · simp at hc
      · split at hc
        · simp [covS, around] at hc
          have := disc_reach hw hc
          omega
        · split at hc
          · simp [covS, around] at hc
            have := square_reach hw hc
            omega
          · simp at hc
    · simp at hc
  · have hc2 : covL (shapesL c.shut s (piecesC c) (piecesC c).length) x y = true := hc
    rw [covP_iff] at hc2
    obtain ⟨i, hi2, h2⟩ := hc2
    obtain ⟨g, b1, b2⟩ := pieces_box (lo := lo) (hi := hi) h _ (List.getElem_mem hi2)
    unfold InBox at b1 b2
    rw [covE_iff] at h2
    rcases h2 with h2 | ⟨_, h2⟩ | ⟨_, h2⟩
    · have := piece_reach hw g h2; omega
    · have := disc_reach hw h2; omega
    · have := disc_reach hw h2; omega
theorem contours_box {lo hi : Int} {l : List Sg} (h : ∀ s ∈ l, InBox lo hi s.x s.y) : ∀ c ∈ contoursS l, BoxC lo hi c := by
  have hall : ∀ c ∈ contoursS l, CtAll (fun e => InBox lo hi e.x0 e.y0 ∧ InBox lo hi e.x1 e.y1) (InBox lo hi) c := by
    unfold contoursS
    split
    · exact ctFold_all _ _ l [] none 0 0 (fun s hs _ => h s hs) (fun s hs h1 h4 x y hxy => ⟨hxy, h s hs⟩) (by simp) (by intro c h; cases h)
    · intro c hc; cases hc
  exact fun c hc => ⟨(hall c hc).1, fun e he => ((hall c hc).2 e he).1⟩
theorem allS_reach {lo hi : Int} {l : List Sg} (h : ∀ s ∈ l, InBox lo hi s.x s.y) (s : Sty) (hw : 0 ≤ s.wide) {x y : Int} (hc : covL (allS l s) x y = true) : InBox (lo - s.wide) (hi + s.wide) x y := by
  unfold allS covL at hc
  rw [List.any_flatMap, List.any_eq_true] at hc
  obtain ⟨c, hc1, hc2⟩ := hc
  exact shapesC_reach (contours_box h c hc1) s hw hc2
end Go.Proofs.Ytfnolaoohmecbaa
