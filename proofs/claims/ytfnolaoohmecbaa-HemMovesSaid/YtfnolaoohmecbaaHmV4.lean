/- Strokes, plain: reversed paths cover the same. -/
import Derived.Test.YtfnolaoohmecbaaHmV3
namespace Go.Proofs.Ytfnolaoohmecbaa
open Go.RowKit

theorem posE_end : ∀ (l : List Edg) (x y : Int), posE x y l = (endX x l, endY y l)
  | [], _, _ => rfl
  | e :: l, _, _ => posE_end l _ _
theorem goes_rev (e : Edg) : goes (revE0 e) = goes e := by
  unfold goes revE0
  dsimp only
  congr 1 <;> exact decide_eq_decide.2 ⟨Ne.symm, Ne.symm⟩
theorem pieceIn_rev (e : Edg) (w : Int) (f l : Bool) (x y : Int) : pieceIn (revE0 e) w f l x y = pieceIn e w l f x y := by
  unfold pieceIn revE0
  dsimp only
  have k1 : ((x - e.x1) * (e.y0 - e.y1) - (y - e.y1) * (e.x0 - e.x1)) = -((x - e.x0) * (e.y1 - e.y0) - (y - e.y0) * (e.x1 - e.x0)) := by grind
  have l1 : (e.x0 - e.x1) * (e.x0 - e.x1) + (e.y0 - e.y1) * (e.y0 - e.y1) = (e.x1 - e.x0) * (e.x1 - e.x0) + (e.y1 - e.y0) * (e.y1 - e.y0) := by grind
  have u1 : (x - e.x1) * (e.x0 - e.x1) + (y - e.y1) * (e.y0 - e.y1) = ((e.x1 - e.x0) * (e.x1 - e.x0) + (e.y1 - e.y0) * (e.y1 - e.y0)) - ((x - e.x0) * (e.x1 - e.x0) + (y - e.y0) * (e.y1 - e.y0)) := by grind
  rw [k1, l1, u1]
  generalize (x - e.x0) * (e.y1 - e.y0) - (y - e.y0) * (e.x1 - e.x0) = k
  generalize (x - e.x0) * (e.x1 - e.x0) + (y - e.y0) * (e.y1 - e.y0) = u
  generalize w * w * ((e.x1 - e.x0) * (e.x1 - e.x0) + (e.y1 - e.y0) * (e.y1 - e.y0)) = C
  generalize (e.x1 - e.x0) * (e.x1 - e.x0) + (e.y1 - e.y0) * (e.y1 - e.y0) = q
  rw [Int.neg_mul_neg, show (q - u) * (q - u) = (u - q) * (u - q) by grind, show (q - u - q) * (q - u - q) = u * u by grind]
  rw [Bool.eq_iff_iff]
  simp only [Bool.and_eq_true, Bool.or_eq_true, decide_eq_true_eq]
  have e1 : 0 ≤ q - u ↔ u ≤ q := by omega
  have e2 : q - u ≤ q ↔ 0 ≤ u := by omega
  rw [e1, e2]
  constructor
  · rintro ⟨h1, h2, h3⟩; exact ⟨h1, h3, h2⟩
  · rintro ⟨h1, h2, h3⟩; exact ⟨h1, h3, h2⟩
def Swap (e f : Edg) : Prop := e.x0 = f.x1 ∧ e.y0 = f.y1 ∧ e.x1 = f.x0 ∧ e.y1 = f.y0
theorem pieceIn_swap {e f : Edg} (h : Swap e f) (w : Int) (a b : Bool) (x y : Int) : pieceIn e w a b x y = pieceIn f w b a x y := by
  rw [← pieceIn_rev]
  obtain ⟨h1, h2, h3, h4⟩ := h
  unfold pieceIn revE0
  dsimp only
  rw [h1, h2, h3, h4]
theorem chained_filter : ∀ (l : List Edg) (x y : Int), chained x y l → chained x y (l.filter goes) ∧ endX x (l.filter goes) = endX x l ∧ endY y (l.filter goes) = endY y l
  | [], _, _, h => ⟨h, rfl, rfl⟩
  | e :: l, x, y, h => by
    obtain ⟨⟨h1, h2⟩, h3⟩ := h
    have ih := chained_filter l e.x1 e.y1 h3
    cases hg : goes e with
    | true =>
      rw [List.filter_cons, if_pos hg]
      exact ⟨⟨⟨h1, h2⟩, ih.1⟩, ih.2.1, ih.2.2⟩
    | false =>
      rw [List.filter_cons, if_neg (by rw [hg]; simp)]
      have e1 : e.x1 = x ∧ e.y1 = y := by
        unfold goes at hg
        simp at hg
        exact ⟨by rw [← hg.1]; exact h1, by rw [← hg.2]; exact h2⟩
      rw [e1.1, e1.2] at ih
      refine ⟨ih.1, ?_, ?_⟩
      · rw [ih.2.1, show endX x (e :: l) = endX e.x1 l from rfl, e1.1]
      · rw [ih.2.2, show endY y (e :: l) = endY e.y1 l from rfl, e1.2]
/-- a closed chain begins where it ends -/
theorem chain_ends (D : Int → Int → Prop) : ∀ (l : List Edg) (x y : Int), chained x y l → ((D x y ∨ ∃ e ∈ l, D e.x1 e.y1) ↔ ((∃ e ∈ l, D e.x0 e.y0) ∨ D (endX x l) (endY y l)))
  | [], x, y, _ => by simp [endX, endY]
  | e :: l, x, y, h => by
    obtain ⟨⟨h1, h2⟩, h3⟩ := h
    have ih := chain_ends D l e.x1 e.y1 h3
    subst h1; subst h2
    simp only [List.mem_cons, exists_eq_or_imp]
    rw [endX, endY]
    constructor
    · rintro (h | h | h)
      · exact .inl (.inl h)
      · rcases ih.1 (.inl h) with k | k
        · exact .inl (.inr k)
        · exact .inr k
      · rcases ih.1 (.inr h) with k | k
        · exact .inl (.inr k)
        · exact .inr k
    · rintro ((h | h) | h)
      · exact .inl h
      · exact .inr (ih.2 (.inl h))
      · exact .inr (ih.2 (.inr h))
theorem chain_first (D : Int → Int → Prop) {l : List Edg} {x y : Int} (h : chained x y l) (hne : l ≠ []) : D x y → ∃ e ∈ l, D e.x0 e.y0 := by
  cases l with
  | nil => exact absurd rfl hne
  | cons e l => intro hd; exact ⟨e, List.mem_cons_self, by rw [h.1.1, h.1.2]; exact hd⟩
theorem chain_last (D : Int → Int → Prop) : ∀ {l : List Edg} {x y : Int}, l ≠ [] → D (endX x l) (endY y l) → ∃ e ∈ l, D e.x1 e.y1
  | [], _, _, h, _ => absurd rfl h
  | [e], _, _, _, hd => ⟨e, List.mem_cons_self, hd⟩
  | e :: f :: l, _, _, _, hd => by
    obtain ⟨g, hg, k⟩ := chain_last D (l := f :: l) (x := e.x1) (y := e.y1) (by simp) hd
    exact ⟨g, List.mem_cons_of_mem _ hg, k⟩
theorem closed_ends (D : Int → Int → Prop) {l : List Edg} {x y : Int} (h : chained x y l) (h1 : endX x l = x) (h2 : endY y l = y) : (∃ e ∈ l, D e.x0 e.y0) ↔ ∃ e ∈ l, D e.x1 e.y1 := by
  by_cases hne : l = []
  · subst hne; simp
  · have k := chain_ends D l x y h
    have kl := chain_last D (l := l) (x := x) (y := y) hne
    rw [h1, h2] at k kl
    constructor
    · intro e
      rcases k.2 (.inl e) with d | d
      · exact kl d
      · exact d
    · intro e
      rcases k.1 (.inr e) with d | d
      · exact d
      · exact chain_first D h hne d
/-- what a contour's pieces cover -/
theorem covE_iff (sh : Bool) (s : Sty) (n i : Nat) (e : Edg) (x y : Int) : covL (shapesE sh s n i e) x y = true ↔
    pieceIn e s.wide ((decide (i = 0) && !sh) && decide (s.cap = 2)) ((decide (i + 1 = n) && !sh) && decide (s.cap = 2)) x y = true ∨
    ((((decide (i = 0) && !sh) && decide (s.cap = 1)) || (!(decide (i = 0) && !sh) && decide (s.join = 1))) = true ∧ discIn e.x0 e.y0 s.wide x y = true) ∨
    (((decide (i + 1 = n) && !sh) && decide (s.cap = 1)) = true ∧ discIn e.x1 e.y1 s.wide x y = true) := by
  unfold shapesE covL
  rw [List.any_append, List.any_append, Bool.or_eq_true, Bool.or_eq_true]
  refine or_congr ?_ (or_congr ?_ ?_)
  · simp [covS]
  · split
    · rename_i h; rw [h]; simp [covS, around]
    · rename_i h; simp only [Bool.not_eq_true] at h; rw [h]; simp
  · split
    · rename_i h; rw [h]; simp [covS, around]
    · rename_i h; simp only [Bool.not_eq_true] at h; rw [h]; simp
theorem covP_iff (sh : Bool) (s : Sty) (L : List Edg) (x y : Int) : covL (shapesL sh s L L.length) x y = true ↔ ∃ i, ∃ h : i < L.length, covL (shapesE sh s L.length i L[i]) x y = true := by
  unfold shapesL covL
  rw [List.any_flatMap, List.any_eq_true]
  constructor
  · rintro ⟨i, hi, h⟩
    have hi := List.mem_range.1 hi
    refine ⟨i, hi, ?_⟩
    rw [show L.getD i default = L[i] by simp [hi]] at h
    exact h
  · rintro ⟨i, hi, h⟩
    refine ⟨i, List.mem_range.2 hi, ?_⟩
    rw [show L.getD i default = L[i] by simp [hi]]
    exact h
theorem covShut_iff (s : Sty) (L : List Edg) (x y : Int) : covL (shapesL true s L L.length) x y = true ↔ (∃ e ∈ L, pieceIn e s.wide false false x y = true) ∨ (s.join = 1 ∧ ∃ e ∈ L, discIn e.x0 e.y0 s.wide x y = true) := by
  rw [covP_iff]
  constructor
  · rintro ⟨i, hi, h⟩
    rw [covE_iff] at h
    simp at h
    rcases h with h | ⟨h1, h2⟩
    · exact .inl ⟨_, List.getElem_mem hi, h⟩
    · exact .inr ⟨h1, _, List.getElem_mem hi, h2⟩
  · rintro (⟨e, he, h⟩ | ⟨hj, e, he, h⟩)
    · obtain ⟨i, hi, rfl⟩ := List.getElem_of_mem he
      exact ⟨i, hi, by rw [covE_iff]; simp; exact .inl h⟩
    · obtain ⟨i, hi, rfl⟩ := List.getElem_of_mem he
      exact ⟨i, hi, by rw [covE_iff]; simp; exact .inr ⟨hj, h⟩⟩
theorem covOpen_iff (s : Sty) (L : List Edg) (x y : Int) : covL (shapesL false s L L.length) x y = true ↔
    (∃ i, ∃ h : i < L.length, pieceIn L[i] s.wide (decide (i = 0) && decide (s.cap = 2)) (decide (i + 1 = L.length) && decide (s.cap = 2)) x y = true) ∨
    (s.cap = 1 ∧ ∃ i, ∃ h : i < L.length, i = 0 ∧ discIn L[i].x0 L[i].y0 s.wide x y = true) ∨
    (s.join = 1 ∧ ∃ i, ∃ h : i < L.length, i ≠ 0 ∧ discIn L[i].x0 L[i].y0 s.wide x y = true) ∨
    (s.cap = 1 ∧ ∃ i, ∃ h : i < L.length, i + 1 = L.length ∧ discIn L[i].x1 L[i].y1 s.wide x y = true) := by
  rw [covP_iff]
  constructor
  · rintro ⟨i, hi, h⟩
    rw [covE_iff] at h
    simp only [Bool.not_false, Bool.and_true] at h
    rcases h with h | ⟨h1, h2⟩ | ⟨h1, h2⟩
    · exact .inl ⟨i, hi, h⟩
    · simp only [Bool.or_eq_true, Bool.and_eq_true, decide_eq_true_eq, Bool.not_eq_true', decide_eq_false_iff_not] at h1
      rcases h1 with ⟨a, b⟩ | ⟨a, b⟩
      · exact .inr (.inl ⟨b, i, hi, a, h2⟩)
      · exact .inr (.inr (.inl ⟨b, i, hi, a, h2⟩))
    · simp only [Bool.and_eq_true, decide_eq_true_eq] at h1
      exact .inr (.inr (.inr ⟨h1.2, i, hi, h1.1, h2⟩))
  · intro h
    have key : ∀ i (hi : i < L.length), (pieceIn L[i] s.wide ((decide (i = 0) && !false) && decide (s.cap = 2)) ((decide (i + 1 = L.length) && !false) && decide (s.cap = 2)) x y = true ∨
      ((((decide (i = 0) && !false) && decide (s.cap = 1)) || (!(decide (i = 0) && !false) && decide (s.join = 1))) = true ∧ discIn L[i].x0 L[i].y0 s.wide x y = true) ∨
      (((decide (i + 1 = L.length) && !false) && decide (s.cap = 1)) = true ∧ discIn L[i].x1 L[i].y1 s.wide x y = true)) → ∃ i, ∃ h : i < L.length, covL (shapesE false s L.length i L[i]) x y = true := fun i hi h => ⟨i, hi, (covE_iff false s L.length i L[i] x y).2 h⟩
    simp only [Bool.not_false, Bool.and_true] at key
    rcases h with ⟨i, hi, h⟩ | ⟨hc, i, hi, h1, h2⟩ | ⟨hj, i, hi, h1, h2⟩ | ⟨hc, i, hi, h1, h2⟩
    · exact key i hi (.inl h)
    · exact key i hi (.inr (.inl ⟨by simp [h1, hc], h2⟩))
    · exact key i hi (.inr (.inl ⟨by simp [h1, hj], h2⟩))
    · exact key i hi (.inr (.inr ⟨by simp [h1, hc], h2⟩))
theorem chain_next : ∀ (l : List Edg) (x y : Int), chained x y l → ∀ i (h : i + 1 < l.length), l[i + 1].x0 = l[i].x1 ∧ l[i + 1].y0 = l[i].y1
  | [], _, _, _, _, h => absurd h (by simp)
  | [e], _, _, _, _, h => absurd h (by simp)
  | e :: f :: l, x, y, hc, 0, h => hc.2.1
  | e :: f :: l, x, y, hc, i + 1, h => by
    have := chain_next (f :: l) e.x1 e.y1 hc.2 i (by simpa using h)
    simpa using this
theorem rev_get (L : List Edg) (j : Nat) (h : j < L.length) (h2 : j < (L.reverse.map revE0).length) : (L.reverse.map revE0)[j] = revE0 (L[L.length - 1 - j]'(by omega)) := by
  rw [List.getElem_map, List.getElem_reverse]
/-- reversed, an open chain covers the same -/
theorem rev_open (s : Sty) {L : List Edg} {a b : Int} (hc : chained a b L) (x y : Int) : covL (shapesL false s (L.reverse.map revE0) (L.reverse.map revE0).length) x y = covL (shapesL false s L L.length) x y := by
  have hl : (L.reverse.map revE0).length = L.length := by simp
  have half : ∀ (M N : List Edg), (∀ i (h : i < M.length), ∃ h2 : M.length - 1 - i < N.length, Swap N[M.length - 1 - i] M[i]) → N.length = M.length → (∀ i (h : i + 1 < M.length), M[i + 1].x0 = M[i].x1 ∧ M[i + 1].y0 = M[i].y1) → (∀ i (h : i + 1 < N.length), N[i + 1].x0 = N[i].x1 ∧ N[i + 1].y0 = N[i].y1) → covL (shapesL false s M M.length) x y = true → covL (shapesL false s N N.length) x y = true := by
    intro M N hMN hlen hM hN h
    rw [covOpen_iff] at h ⊢
    rcases h with ⟨i, hi, h⟩ | ⟨hc, i, hi, h1, h2⟩ | ⟨hj, i, hi, h1, h2⟩ | ⟨hc, i, hi, h1, h2⟩
    · obtain ⟨g, e⟩ := hMN i hi
      refine .inl ⟨_, g, ?_⟩
      rw [pieceIn_swap e]
      rw [show decide (M.length - 1 - i + 1 = N.length) = decide (i = 0) from decide_eq_decide.2 (by omega), show decide (M.length - 1 - i = 0) = decide (i + 1 = M.length) from decide_eq_decide.2 (by omega)]
      exact h
    · obtain ⟨g, e⟩ := hMN i hi
      refine .inr (.inr (.inr ⟨hc, _, g, by omega, ?_⟩))
      rw [e.2.2.1, e.2.2.2]; exact h2
    · obtain ⟨g, e⟩ := hMN (i - 1) (by omega)
      refine .inr (.inr (.inl ⟨hj, _, g, by omega, ?_⟩))
      have k := hM (i - 1) (by omega)
      rw [e.1, e.2.1, ← k.1, ← k.2]
      have e2 : ∀ (j : Nat) (hj : j < M.length), j = i → discIn M[j].x0 M[j].y0 s.wide x y = true := by intro j hj e; subst e; exact h2
      exact e2 _ _ (by omega)
    · obtain ⟨g, e⟩ := hMN i hi
      refine .inr (.inl ⟨hc, _, g, by omega, ?_⟩)
      rw [e.1, e.2.1]; exact h2
  have hM := chain_next L a b hc
  have hN : ∀ i (h : i + 1 < (L.reverse.map revE0).length), (L.reverse.map revE0)[i + 1].x0 = (L.reverse.map revE0)[i].x1 ∧ (L.reverse.map revE0)[i + 1].y0 = (L.reverse.map revE0)[i].y1 := by
    intro i h
    rw [rev_get L (i + 1) (by omega) h, rev_get L i (by omega) (by omega)]
    have k := hM (L.length - 1 - (i + 1)) (by omega)
    unfold revE0
    dsimp only
    have e2 : ∀ (j : Nat) (hj : j < L.length), j = L.length - 1 - (i + 1) + 1 → L[j].x0 = (L[L.length - 1 - (i + 1)]'(by omega)).x1 ∧ L[j].y0 = (L[L.length - 1 - (i + 1)]'(by omega)).y1 := by intro j hj e; subst e; exact k
    have := e2 (L.length - 1 - i) (by omega) (by omega)
    exact ⟨this.1.symm, this.2.symm⟩
  rw [Bool.eq_iff_iff]
  constructor
  · intro h
    exact half (L.reverse.map revE0) L (fun i hi => ⟨by omega, by
      rw [rev_get L i (by omega) hi]
      have e2 : ∀ (j : Nat) (hj : j < L.length), j = L.length - 1 - i → Swap L[j] (revE0 (L[L.length - 1 - i]'(by omega))) := by intro j hj e; subst e; exact ⟨rfl, rfl, rfl, rfl⟩
      exact e2 _ _ (by omega)⟩) hl.symm hN hM h
  · exact half L (L.reverse.map revE0) (fun i hi => ⟨by omega, by
      rw [rev_get L (L.length - 1 - i) (by omega) (by omega)]
      have e2 : ∀ (j : Nat) (hj : j < L.length), j = i → Swap (revE0 L[j]) L[i] := by intro j hj e; subst e; exact ⟨rfl, rfl, rfl, rfl⟩
      exact e2 _ _ (by omega)⟩) hl hM hN
/-- a contour turned round -/
theorem revC_cov (s : Sty) {c : Ct} (hc : Chained c) (x y : Int) : covL (shapesC s (revC c)) x y = covL (shapesC s c) x y := by
  obtain ⟨cx, cy, es, sh⟩ := c
  have hch : chained cx cy es := hc
  obtain ⟨f1, f2, f3⟩ := chained_filter es cx cy hch
  have hrc := rev_chain es cx cy hch
  have hfil : (es.reverse.map revE0).filter goes = (es.filter goes).reverse.map revE0 := by
    rw [List.filter_map, List.filter_reverse]
    congr 1
    congr 1
    congr 1
    funext e
    exact goes_rev e
  have hend : ∀ (l : List Edg) (a b : Int), posE a b (l.map revE0) = (startX a l, startY b l) := by
    intro l
    induction l with
    | nil => intro a b; rfl
    | cons e l ih => intro a b; exact ih e.x0 e.y0
  have hpr : posE (endX cx es) (endY cy es) (es.reverse.map revE0) = (cx, cy) := by rw [hend, hrc.2.1, hrc.2.2]
  have hp : piecesC ⟨cx, cy, es, sh⟩ = es.filter goes ++ shutE ⟨cx, cy, es, sh⟩ := rfl
  have hq : piecesC (revC ⟨cx, cy, es, sh⟩) = (es.filter goes).reverse.map revE0 ++ shutE (revC ⟨cx, cy, es, sh⟩) := by
    show (es.reverse.map revE0).filter goes ++ _ = _
    rw [hfil]
  have hz : shutE ⟨cx, cy, es, sh⟩ = if sh = true ∧ (endX cx es ≠ cx ∨ endY cy es ≠ cy) then [⟨endX cx es, endY cy es, false, 0, 0, cx, cy⟩] else [] := by
    unfold shutE
    dsimp only
    rw [posE_end]
  have hzr : shutE (revC ⟨cx, cy, es, sh⟩) = if sh = true ∧ (cx ≠ endX cx es ∨ cy ≠ endY cy es) then [⟨cx, cy, false, 0, 0, endX cx es, endY cy es⟩] else [] := by
    unfold shutE revC
    dsimp only
    rw [hpr]
  have hlen : (piecesC (revC ⟨cx, cy, es, sh⟩)).length = (piecesC ⟨cx, cy, es, sh⟩).length := by
    rw [hp, hq, hz, hzr]
    by_cases h : sh = true ∧ (endX cx es ≠ cx ∨ endY cy es ≠ cy)
    · rw [if_pos h, if_pos ⟨h.1, h.2.imp Ne.symm Ne.symm⟩]; simp
    · rw [if_neg h, if_neg (fun k => h ⟨k.1, k.2.imp Ne.symm Ne.symm⟩)]; simp
  by_cases h0 : (piecesC ⟨cx, cy, es, sh⟩).length = 0
  · have hf0 : es.filter goes = [] := by
      have := List.length_eq_zero_iff.1 h0
      rw [hp] at this
      exact (List.append_eq_nil_iff.1 this).1
    rw [hf0] at f2 f3
    have e1 : endX cx es = cx := f2.symm
    have e2 : endY cy es = cy := f3.symm
    unfold shapesC
    rw [hlen, h0]
    simp only [if_true]
    have hd : dotS (revC ⟨cx, cy, es, sh⟩) s = dotS ⟨cx, cy, es, sh⟩ s := by
      unfold dotS revC
      dsimp only
      rw [e1, e2, List.length_map, List.length_reverse]
    rw [hd]
    rfl
  · have h0r : ¬ (piecesC (revC ⟨cx, cy, es, sh⟩)).length = 0 := by rw [hlen]; exact h0
    have hs1 : shapesC s ⟨cx, cy, es, sh⟩ = shapesL sh s (piecesC ⟨cx, cy, es, sh⟩) (piecesC ⟨cx, cy, es, sh⟩).length := by
      unfold shapesC
      rw [if_neg h0, List.nil_append]
    have hs2 : shapesC s (revC ⟨cx, cy, es, sh⟩) = shapesL sh s (piecesC (revC ⟨cx, cy, es, sh⟩)) (piecesC (revC ⟨cx, cy, es, sh⟩)).length := by
      unfold shapesC
      rw [if_neg h0r, List.nil_append]
      rfl
    rw [hs1, hs2, hp, hq, hz, hzr]
    cases sh with
    | false =>
      rw [if_neg (by simp), if_neg (by simp), List.append_nil, List.append_nil]
      exact rev_open s f1 x y
    | true =>
      have hcl : ∃ Z : List Edg, ∃ Zr : List Edg, (if true = true ∧ (endX cx es ≠ cx ∨ endY cy es ≠ cy) then [(⟨endX cx es, endY cy es, false, 0, 0, cx, cy⟩ : Edg)] else []) = Z ∧ (if true = true ∧ (cx ≠ endX cx es ∨ cy ≠ endY cy es) then [(⟨cx, cy, false, 0, 0, endX cx es, endY cy es⟩ : Edg)] else []) = Zr ∧ Zr = Z.map revE0 ∧ chained cx cy (es.filter goes ++ Z) ∧ endX cx (es.filter goes ++ Z) = cx ∧ endY cy (es.filter goes ++ Z) = cy := by
        by_cases h : endX cx es ≠ cx ∨ endY cy es ≠ cy
        · refine ⟨_, _, if_pos ⟨rfl, h⟩, if_pos ⟨rfl, h.imp Ne.symm Ne.symm⟩, rfl, chained_snoc _ _ _ _ f1 f2.symm f3.symm, ?_, ?_⟩
          · exact endX_snoc _ _ _
          · exact endY_snoc _ _ _
        · have e1 : endX cx es = cx := by
            apply Classical.byContradiction; intro k; exact h (.inl k)
          have e2 : endY cy es = cy := by
            apply Classical.byContradiction; intro k; exact h (.inr k)
          refine ⟨_, _, if_neg (fun k => h k.2), if_neg (fun k => h (k.2.imp Ne.symm Ne.symm)), rfl, by rw [List.append_nil]; exact f1, by rw [List.append_nil, f2, e1], by rw [List.append_nil, f3, e2]⟩
      obtain ⟨Z, Zr, hZ, hZr, hZZ, g1, g2, g3⟩ := hcl
      rw [hZ, hZr, hZZ]
      rw [Bool.eq_iff_iff, covShut_iff, covShut_iff]
      have hcl := closed_ends (fun a b => discIn a b s.wide x y = true) g1 g2 g3
      refine or_congr ?_ (and_congr Iff.rfl ?_)
      · constructor
        · rintro ⟨e, he, h⟩
          rcases List.mem_append.1 he with he | he
          · obtain ⟨f, hf, rfl⟩ := List.mem_map.1 he
            rw [pieceIn_rev] at h
            exact ⟨f, List.mem_append.2 (.inl (List.mem_reverse.1 hf)), h⟩
          · obtain ⟨f, hf, rfl⟩ := List.mem_map.1 he
            rw [pieceIn_rev] at h
            exact ⟨f, List.mem_append.2 (.inr hf), h⟩
        · rintro ⟨e, he, h⟩
          rw [← pieceIn_rev] at h
          rcases List.mem_append.1 he with he | he
          · exact ⟨revE0 e, List.mem_append.2 (.inl (List.mem_map.2 ⟨e, List.mem_reverse.2 he, rfl⟩)), h⟩
          · exact ⟨revE0 e, List.mem_append.2 (.inr (List.mem_map.2 ⟨e, he, rfl⟩)), h⟩
      · rw [hcl]
        constructor
        · rintro ⟨e, he, h⟩
          rcases List.mem_append.1 he with he | he
          · obtain ⟨f, hf, rfl⟩ := List.mem_map.1 he
            exact ⟨f, List.mem_append.2 (.inl (List.mem_reverse.1 hf)), h⟩
          · obtain ⟨f, hf, rfl⟩ := List.mem_map.1 he
            exact ⟨f, List.mem_append.2 (.inr hf), h⟩
        · rintro ⟨e, he, h⟩
          rcases List.mem_append.1 he with he | he
          · exact ⟨revE0 e, List.mem_append.2 (.inl (List.mem_map.2 ⟨e, List.mem_reverse.2 he, rfl⟩)), h⟩
          · exact ⟨revE0 e, List.mem_append.2 (.inr (List.mem_map.2 ⟨e, he, rfl⟩)), h⟩
theorem back_cov {l : List Sg} (h : pathMay l = true) (s : Sty) (x y : Int) : covL (allS (backS l) s) x y = covL (allS l s) x y := by
  unfold allS
  rw [(back_contours h).2]
  have hch := contours_chained l
  unfold covL
  rw [List.any_flatMap, List.any_flatMap, List.any_map]
  generalize contoursS l = cs at *
  induction cs with
  | nil => rfl
  | cons c cs ih =>
    rw [List.any_cons, List.any_cons, ih fun d hd => hch d (List.mem_cons_of_mem _ hd)]
    congr 1
    exact revC_cov s (hch c List.mem_cons_self) x y
end Go.Proofs.Ytfnolaoohmecbaa
