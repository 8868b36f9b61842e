/- Strokes, plain: the shapes of a path and what they cover. -/
import Derived.Test.YtfnolaoohmecbaaCtrM
import Derived.Test.YtfnolaoohmecbaaBoxM
namespace Go.Proofs.Ytfnolaoohmecbaa
open Go.RowKit

structure Sty where
  wide : Int
  cap : Int
  join : Int
def styV (s : Sty) : Value := .agg #[.int .i64 s.wide, .int .i64 s.cap, .int .i64 s.join]
def mayY (s : Sty) : Bool := decide (0 ≤ s.wide) && (decide (s.wide ≤ 2048) && (decide (0 ≤ s.cap) && (decide (s.cap ≤ 2) && (decide (0 ≤ s.join) && decide (s.join ≤ 1)))))
/-- what covers: a piece (0), a disc (1), a square (2) -/
structure Shp where
  e : Edg
  wide : Int
  first : Bool
  last : Bool
  kind : Nat
instance : Inhabited Shp := ⟨⟨default, 0, false, false, 0⟩⟩

/-- does an edge go somewhere? -/
def goes (e : Edg) : Bool := decide (e.x0 ≠ e.x1) || decide (e.y0 ≠ e.y1)
/-- where edges end that begin somewhere -/
def posE : Int → Int → List Edg → Int × Int
  | x, y, [] => (x, y)
  | _, _, e :: r => posE e.x1 e.y1 r
theorem posE_snoc : ∀ (l : List Edg) (x y : Int) (e : Edg), posE x y (l ++ [e]) = (e.x1, e.y1)
  | [], _, _, _ => rfl
  | f :: r, _, _, e => by rw [List.cons_append]; exact posE_snoc r _ _ e
/-- what closes a contour -/
def shutE (c : Ct) : List Edg := if c.shut ∧ ((posE c.x c.y c.edges).1 ≠ c.x ∨ (posE c.x c.y c.edges).2 ≠ c.y) then [⟨(posE c.x c.y c.edges).1, (posE c.x c.y c.edges).2, false, 0, 0, c.x, c.y⟩] else []
def piecesC (c : Ct) : List Edg := c.edges.filter goes ++ shutE c

def around (k : Nat) (x y wide : Int) : Shp := ⟨⟨x, y, false, 0, 0, 0, 0⟩, wide, false, false, k⟩
/-- the shapes of a contour that goes nowhere -/
def dotS (c : Ct) (s : Sty) : List Shp := if c.edges.length = 0 ∧ c.shut = false then [] else if s.cap = 1 then [around 1 c.x c.y s.wide] else if s.cap = 2 then [around 2 c.x c.y s.wide] else []
/-- the shapes of a contour's i-th piece of n -/
def shapesE (shut : Bool) (s : Sty) (n i : Nat) (e : Edg) : List Shp :=
  [⟨e, s.wide, (decide (i = 0) && !shut) && decide (s.cap = 2), (decide (i + 1 = n) && !shut) && decide (s.cap = 2), 0⟩] ++
  ((if ((decide (i = 0) && !shut) && decide (s.cap = 1)) || (!(decide (i = 0) && !shut) && decide (s.join = 1)) then [around 1 e.x0 e.y0 s.wide] else []) ++
  (if (decide (i + 1 = n) && !shut) && decide (s.cap = 1) then [around 1 e.x1 e.y1 s.wide] else []))
def shapesL (shut : Bool) (s : Sty) (l : List Edg) (k : Nat) : List Shp := (List.range k).flatMap fun i => shapesE shut s l.length i (l.getD i default)
def shapesC (s : Sty) (c : Ct) : List Shp := (if (piecesC c).length = 0 then dotS c s else []) ++ shapesL c.shut s (piecesC c) (piecesC c).length
def allS (l : List Sg) (s : Sty) : List Shp := (contoursS l).flatMap (shapesC s)

def pieceIn (e : Edg) (w : Int) (first last : Bool) (x y : Int) : Bool :=
  decide (4 * (((x - e.x0) * (e.y1 - e.y0) - (y - e.y0) * (e.x1 - e.x0)) * ((x - e.x0) * (e.y1 - e.y0) - (y - e.y0) * (e.x1 - e.x0))) ≤ w * w * ((e.x1 - e.x0) * (e.x1 - e.x0) + (e.y1 - e.y0) * (e.y1 - e.y0))) &&
  ((decide (0 ≤ (x - e.x0) * (e.x1 - e.x0) + (y - e.y0) * (e.y1 - e.y0)) || (first && decide (4 * (((x - e.x0) * (e.x1 - e.x0) + (y - e.y0) * (e.y1 - e.y0)) * ((x - e.x0) * (e.x1 - e.x0) + (y - e.y0) * (e.y1 - e.y0))) ≤ w * w * ((e.x1 - e.x0) * (e.x1 - e.x0) + (e.y1 - e.y0) * (e.y1 - e.y0))))) &&
  (decide ((x - e.x0) * (e.x1 - e.x0) + (y - e.y0) * (e.y1 - e.y0) ≤ (e.x1 - e.x0) * (e.x1 - e.x0) + (e.y1 - e.y0) * (e.y1 - e.y0)) || (last && decide (4 * (((x - e.x0) * (e.x1 - e.x0) + (y - e.y0) * (e.y1 - e.y0) - ((e.x1 - e.x0) * (e.x1 - e.x0) + (e.y1 - e.y0) * (e.y1 - e.y0))) * ((x - e.x0) * (e.x1 - e.x0) + (y - e.y0) * (e.y1 - e.y0) - ((e.x1 - e.x0) * (e.x1 - e.x0) + (e.y1 - e.y0) * (e.y1 - e.y0)))) ≤ w * w * ((e.x1 - e.x0) * (e.x1 - e.x0) + (e.y1 - e.y0) * (e.y1 - e.y0))))))
def discIn (px py w x y : Int) : Bool := decide (4 * ((x - px) * (x - px) + (y - py) * (y - py)) ≤ w * w)
def squareIn (px py w x y : Int) : Bool := (decide (2 * (x - px) ≤ w) && decide (2 * (px - x) ≤ w)) && (decide (2 * (y - py) ≤ w) && decide (2 * (py - y) ≤ w))
def covS (s : Shp) (x y : Int) : Bool := if s.kind = 0 then pieceIn s.e s.wide s.first s.last x y else if s.kind = 1 then discIn s.e.x0 s.e.y0 s.wide x y else squareIn s.e.x0 s.e.y0 s.wide x y
def covL (l : List Shp) (x y : Int) : Bool := l.any fun s => covS s x y
def straightS (l : List Sg) : Bool := pathMay l && l.all fun s => decide (s.kind ≠ 3)
def inS (l : List Sg) (s : Sty) (x y : Int) : Bool := (straightS l && mayY s) && ((near1 x && near1 y) && covL (allS l s) x y)

/-! what may stand in a shape -/
def NearP' (x y : Int) : Prop := (-8191 ≤ x ∧ x ≤ 8191) ∧ (-8191 ≤ y ∧ y ≤ 8191)
def NearE' (e : Edg) : Prop := NearP' e.x0 e.y0 ∧ NearP' e.x1 e.y1
def GoodS (s : Shp) : Prop := NearE' s.e ∧ (0 ≤ s.wide ∧ s.wide ≤ 2048) ∧ s.kind ≤ 2
def GoodC (c : Ct) : Prop := NearP' c.x c.y ∧ ∀ e ∈ c.edges, NearE' e
theorem near_iff' (t : Int) : near1 t = true ↔ -8191 ≤ t ∧ t ≤ 8191 := by unfold near1; simp
theorem contours_good {l : List Sg} (h : pathMay l = true) : ∀ c ∈ contoursS l, GoodC c := by
  have hmm : l.length ≤ 300 ∧ maySF 0 l = true := by simpa [pathMay] using h
  have hr := may_right l 0 hmm.2
  have hall : ∀ c ∈ contoursS l, CtAll NearE' NearP' c := by
    unfold contoursS
    rw [if_pos h]
    refine ctFold_all NearE' NearP' l [] none 0 0 (fun s hs _ => ?_) (fun s hs h1 h4 x y hxy => ?_) (by simp) (by intro c h; cases h)
    · obtain ⟨k, hk⟩ := hr s hs
      obtain ⟨n1, n2, _⟩ := rightS_near hk
      exact ⟨(near_iff' _).1 n1, (near_iff' _).1 n2⟩
    · obtain ⟨k, hk⟩ := hr s hs
      obtain ⟨n1, n2, _⟩ := rightS_near hk
      exact ⟨hxy, (near_iff' _).1 n1, (near_iff' _).1 n2⟩
  exact fun c hc => ⟨(hall c hc).1, fun e he => ((hall c hc).2 e he).1⟩
theorem posE_near : ∀ (l : List Edg) (x y : Int), NearP' x y → (∀ e ∈ l, NearE' e) → NearP' (posE x y l).1 (posE x y l).2
  | [], _, _, h, _ => h
  | e :: r, _, _, _, hl => posE_near r _ _ (hl e List.mem_cons_self).2 fun a ha => hl a (List.mem_cons_of_mem _ ha)
theorem pieces_near {c : Ct} (h : GoodC c) : ∀ e ∈ piecesC c, NearE' e := by
  intro e he
  unfold piecesC at he
  rcases List.mem_append.1 he with he | he
  · exact h.2 e (List.mem_filter.1 he).1
  · unfold shutE at he
    split at he
    · rw [List.mem_singleton.1 he]
      exact ⟨posE_near _ _ _ h.1 h.2, h.1⟩
    · cases he
theorem zero_near : NearP' 0 0 := ⟨⟨by decide, by decide⟩, by decide, by decide⟩
theorem mayY_bd {s : Sty} (h : mayY s = true) : 0 ≤ s.wide ∧ s.wide ≤ 2048 ∧ 0 ≤ s.cap ∧ s.cap ≤ 2 ∧ 0 ≤ s.join ∧ s.join ≤ 1 := by
  unfold mayY at h; simpa using h
theorem around_good {k : Nat} (hk : k ≤ 2) {x y w : Int} (h : NearP' x y) (hw : 0 ≤ w ∧ w ≤ 2048) : GoodS (around k x y w) := ⟨⟨h, zero_near⟩, hw, hk⟩
theorem shapesE_good {shut : Bool} {s : Sty} {n i : Nat} {e : Edg} (he : NearE' e) (hw : 0 ≤ s.wide ∧ s.wide ≤ 2048) : ∀ q ∈ shapesE shut s n i e, GoodS q := by
  intro q hq
  unfold shapesE at hq
  rcases List.mem_append.1 hq with hq | hq
  · rw [List.mem_singleton.1 hq]; exact ⟨he, hw, Nat.zero_le _⟩
  · rcases List.mem_append.1 hq with hq | hq <;> split at hq
    · rw [List.mem_singleton.1 hq]; exact around_good (by decide) he.1 hw
    · cases hq
    · rw [List.mem_singleton.1 hq]; exact around_good (by decide) he.2 hw
    · cases hq
theorem dotS_good {c : Ct} {s : Sty} (h : GoodC c) (hw : 0 ≤ s.wide ∧ s.wide ≤ 2048) : ∀ q ∈ dotS c s, GoodS q := by
  intro q hq
  unfold dotS at hq
  split at hq
  · cases hq
  · split at hq
    · rw [List.mem_singleton.1 hq]; exact around_good (by decide) h.1 hw
    · split at hq
      · rw [List.mem_singleton.1 hq]; exact around_good (by decide) h.1 hw
      · cases hq
theorem shapesC_good {c : Ct} {s : Sty} (h : GoodC c) (hw : 0 ≤ s.wide ∧ s.wide ≤ 2048) : ∀ q ∈ shapesC s c, GoodS q := by
  intro q hq
  unfold shapesC at hq
  rcases List.mem_append.1 hq with hq | hq
  · split at hq
    · exact dotS_good h hw q hq
    · cases hq
  · unfold shapesL at hq
    obtain ⟨i, hi, hq⟩ := List.mem_flatMap.1 hq
    have hi := List.mem_range.1 hi
    refine shapesE_good (pieces_near h _ ?_) hw q hq
    rw [show (piecesC c).getD i default = (piecesC c)[i] by simp [hi]]
    exact List.getElem_mem hi
theorem allS_good {l : List Sg} {s : Sty} (h : pathMay l = true) (hw : mayY s = true) : ∀ q ∈ allS l s, GoodS q := by
  intro q hq
  obtain ⟨c, hc, hq⟩ := List.mem_flatMap.1 hq
  have := mayY_bd hw
  exact shapesC_good (contours_good h c hc) ⟨this.1, this.2.1⟩ q hq
/-! how many there are -/
theorem shapesE_len (shut : Bool) (s : Sty) (n i : Nat) (e : Edg) : (shapesE shut s n i e).length ≤ 3 := by
  unfold shapesE
  simp only [List.length_append, List.length_singleton]
  split <;> split <;> simp
theorem shapesL_len (shut : Bool) (s : Sty) (l : List Edg) : ∀ k, (shapesL shut s l k).length ≤ 3 * k
  | 0 => by simp [shapesL]
  | k + 1 => by
    have ih := shapesL_len shut s l k
    have := shapesE_len shut s l.length k (l.getD k default)
    unfold shapesL at *
    rw [List.range_succ, List.flatMap_append, List.length_append]
    simp only [List.flatMap_cons, List.flatMap_nil, List.append_nil]
    omega
theorem pieces_len (c : Ct) : (piecesC c).length ≤ c.edges.length + 1 := by
  have := List.length_filter_le goes c.edges
  have h : (shutE c).length ≤ 1 := by unfold shutE; split <;> simp
  unfold piecesC
  rw [List.length_append]
  omega
theorem dotS_len (c : Ct) (s : Sty) : (dotS c s).length ≤ 1 := by
  unfold dotS; split
  · simp
  · split
    · simp
    · split <;> simp
theorem shapesC_len (s : Sty) (c : Ct) : (shapesC s c).length ≤ 3 * ctW c := by
  have h1 := pieces_len c
  have h2 := shapesL_len c.shut s (piecesC c) (piecesC c).length
  have h3 := dotS_len c s
  unfold shapesC ctW
  rw [List.length_append]
  split
  · omega
  · simp only [List.length_nil]; omega
theorem shapes_weight (s : Sty) : ∀ l : List Ct, (l.flatMap (shapesC s)).length ≤ 3 * (l.map ctW).sum
  | [] => by simp
  | c :: l => by
    have h1 := shapesC_len s c
    have h2 := shapes_weight s l
    simp only [List.flatMap_cons, List.length_append, List.map_cons, List.sum_cons]
    omega
theorem allS_len (l : List Sg) (s : Sty) : (allS l s).length ≤ 900 := by
  have h1 := shapes_weight s (contoursS l)
  have h2 := contours_weight l
  unfold allS; omega
theorem shapesL_step (shut : Bool) (s : Sty) (l : List Edg) (k : Nat) : shapesL shut s l (k + 1) = shapesL shut s l k ++ shapesE shut s l.length k (l.getD k default) := by
  unfold shapesL
  rw [List.range_succ, List.flatMap_append]
  simp only [List.flatMap_cons, List.flatMap_nil, List.append_nil]
end Go.Proofs.Ytfnolaoohmecbaa
