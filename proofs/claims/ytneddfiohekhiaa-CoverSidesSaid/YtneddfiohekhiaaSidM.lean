/- Plain laws: a polygon cut by a way over a point; a triangle cut at the middle of a side. -/
import Derived.Test.YtneddfiohekhiaaBoxM
namespace Go.Proofs.Ytneddfiohekhiaa
abbrev Pnt := Int × Int
def ln (x y : Int) (a b : Pnt) : Int := turnG (lineE a.1 a.2 b.1 b.2) x y
def wk (x y : Int) : Pnt → List Pnt → Int
  | _, [] => 0
  | a, b :: l => ln x y a b + wk x y b l
def lastP : Pnt → List Pnt → Pnt
  | a, [] => a
  | _, b :: l => lastP b l
def cyc (x y : Int) (a : Pnt) (l : List Pnt) : Int := wk x y a l + ln x y (lastP a l) a
theorem wk_append (x y : Int) : ∀ (l m : List Pnt) (a : Pnt), wk x y a (l ++ m) = wk x y a l + wk x y (lastP a l) m
  | [], m, a => by simp [wk, lastP]
  | b :: l, m, a => by rw [List.cons_append, wk, wk_append x y l m b, wk, lastP]; omega
theorem lastP_append : ∀ (l m : List Pnt) (a : Pnt), lastP a (l ++ m) = lastP (lastP a l) m
  | [], _, _ => rfl
  | b :: l, m, a => lastP_append l m b
theorem cyc_rot (x y : Int) (a b : Pnt) (l m : List Pnt) : cyc x y b (m ++ a :: l) = cyc x y a (l ++ b :: m) := by
  unfold cyc
  rw [wk_append, wk_append, lastP_append, lastP_append]
  simp only [wk, lastP]
  omega
def lineSg (b : Pnt) : Sg := ⟨2, b.1, b.2, 0, 0⟩
def pathP (a : Pnt) (l : List Pnt) (sh : Bool) : List Sg := ⟨1, a.1, a.2, 0, 0⟩ :: (l.map lineSg ++ if sh then [⟨4, 0, 0, 0, 0⟩] else [])
def chainL : Pnt → List Pnt → List Edg
  | _, [] => []
  | a, b :: l => lineE a.1 a.2 b.1 b.2 :: chainL b l
theorem chainL_wind (x y : Int) : ∀ (l : List Pnt) (a : Pnt), windG (chainL a l) x y = wk x y a l
  | [], _ => rfl
  | b :: l, a => by rw [chainL, windG_cons, chainL_wind x y l b]; rfl
theorem chainL_end : ∀ (l : List Pnt) (a : Pnt), endX a.1 (chainL a l) = (lastP a l).1 ∧ endY a.2 (chainL a l) = (lastP a l).2
  | [], _ => ⟨rfl, rfl⟩
  | b :: l, a => chainL_end l b
theorem chainL_len : ∀ (l : List Pnt) (a : Pnt), (chainL a l).length = l.length
  | [], _ => rfl
  | b :: l, a => by rw [chainL, List.length_cons, chainL_len l b, List.length_cons]
theorem fold_line (rest : List Sg) (done : List Ct) (sx sy : Int) (sh : Bool) : ∀ (l : List Pnt) (acc : List Edg) (a : Pnt), ctFold (l.map lineSg ++ rest) done (some ⟨sx, sy, acc, sh⟩) a.1 a.2 = ctFold rest done (some ⟨sx, sy, acc ++ chainL a l, sh⟩) (lastP a l).1 (lastP a l).2
  | [], acc, a => by simp [chainL, lastP]
  | b :: l, acc, a => by
    rw [List.map_cons, List.cons_append, ctFold.eq_def]
    dsimp only
    rw [if_neg (by unfold lineSg; simp), if_neg (by unfold lineSg; simp)]
    have e : segE a.1 a.2 (lineSg b) = lineE a.1 a.2 b.1 b.2 := rfl
    have := fold_line rest done sx sy sh l (acc ++ [segE a.1 a.2 (lineSg b)]) b
    rw [show (lineSg b).x = b.1 from rfl, show (lineSg b).y = b.2 from rfl, this, e]
    simp [chainL, lastP]
theorem pathP_wind {a : Pnt} {l : List Pnt} {sh : Bool} (hm : pathMay (pathP a l sh) = true) (x y : Int) : windG (edgesS (pathP a l sh)) x y = cyc x y a l := by
  have hc : contoursS (pathP a l sh) = [⟨a.1, a.2, chainL a l, sh⟩] := by
    unfold contoursS
    rw [hm]
    unfold pathP
    rw [if_pos rfl, ctFold.eq_def]
    dsimp only
    rw [if_pos rfl, fold_line]
    cases sh with
    | true =>
      simp only [if_true]
      rw [ctFold.eq_def]
      simp [ctFold]
    | false => simp [ctFold]
  unfold edgesS
  rw [hc]
  simp only [List.flatMap_cons, List.flatMap_nil, List.append_nil]
  unfold cyc
  rw [← chainL_wind x y l a]
  by_cases h0 : (chainL a l).length = 0
  · rw [edgesC_nil (by simpa using h0)]
    have hl : l = [] := List.length_eq_zero_iff.1 (by rw [← chainL_len l a]; exact h0)
    subst hl
    show (0 : Int) = 0 + turnG (lineE a.1 a.2 a.1 a.2) x y
    rw [turnG_dot]; rfl
  · obtain ⟨e1, e2⟩ := endE_eq ⟨a.1, a.2, chainL a l, sh⟩ h0
    obtain ⟨f1, f2⟩ := chainL_end l a
    dsimp only at e1 e2
    rw [f1] at e1
    rw [f2] at e2
    by_cases h1 : (lastP a l).1 = a.1 ∧ (lastP a l).2 = a.2
    · rw [edgesC_shut h0 (by rw [← e1, ← e2]; exact h1)]
      unfold ln
      rw [h1.1, h1.2, turnG_dot]
      show windG (chainL a l) x y = _
      omega
    · rw [edgesC_open h0 (by rw [← e1, ← e2]; exact h1), windG_append, ← e1, ← e2, windG_cons, windG_nil]
      show windG (chainL a l) x y + (turnG (lineE (lastP a l).1 (lastP a l).2 a.1 a.2) x y + 0) = _
      unfold ln; omega
def smallP (p : Pnt) : Prop := smallI p.1 ∧ smallI p.2
theorem lines_may (rest : List Sg) : ∀ (l : List Pnt) (last : Int), (∀ p ∈ l, smallP p) → last ≠ 0 → last ≠ 4 → (∀ k, k ≠ 0 → k ≠ 4 → maySF k rest = true) → maySF last (l.map lineSg ++ rest) = true
  | [], last, _, h0, h4, hr => hr last h0 h4
  | b :: l, last, hs, h0, h4, hr => by
    have hb := hs b List.mem_cons_self
    have hz : near1 0 = true := by decide
    have hright : rightS (lineSg b) last = true := by
      unfold rightS lineSg
      simp [smallI_near hb.1, smallI_near hb.2, hz, h0, h4]
    rw [List.map_cons, List.cons_append, maySF, hright, Bool.true_and]
    exact lines_may rest l _ (fun p hp => hs p (List.mem_cons_of_mem _ hp)) (show (2 : Int) ≠ 0 by decide) (show (2 : Int) ≠ 4 by decide) hr
theorem pathP_may {a : Pnt} {l : List Pnt} (sh : Bool) (h : ∀ p ∈ a :: l, smallP p) (hl : l.length ≤ 200) : pathMay (pathP a l sh) = true := by
  have hz : near1 0 = true := by decide
  have ha := h a List.mem_cons_self
  have h1 : rightS ⟨1, a.1, a.2, 0, 0⟩ 0 = true := by
    unfold rightS
    simp [smallI_near ha.1, smallI_near ha.2, hz]
  unfold pathMay pathP
  rw [maySF, h1, Bool.true_and]
  have hm : maySF 1 (l.map lineSg ++ if sh then [⟨4, 0, 0, 0, 0⟩] else []) = true := by
    refine lines_may _ l 1 (fun p hp => h p (List.mem_cons_of_mem _ hp)) (by decide) (by decide) fun k h0 h4 => ?_
    cases sh with
    | true =>
      have : rightS ⟨4, 0, 0, 0, 0⟩ k = true := by unfold rightS; simp [hz, h0, h4]
      simp only [if_true]
      rw [maySF, this]; rfl
    | false => rfl
  rw [hm, Bool.and_true]
  refine decide_eq_true ?_
  cases sh <;> (simp; omega)
/-- Loop's path is one of points -/
theorem loop_points (n : List Int) : ∃ a l, loopS n = pathP a l true ∧ (∀ p ∈ a :: l, smallP p) ∧ l.length ≤ 8 := by
  have key : ∀ f (p : List Sg) m, ∃ l : List Pnt, loopF f p m = p ++ l.map lineSg ∧ (∀ q ∈ l, smallP q) ∧ l.length ≤ f := by
    intro f
    induction f with
    | zero => intro p m; exact ⟨[], by simp [loopF], by simp, by simp⟩
    | succ f ih =>
      intro p m
      rw [loopF]
      split
      · exact ⟨[], by simp, by simp, by simp⟩
      · obtain ⟨l, h1, h2, h3⟩ := ih (p ++ [⟨2, coI m, coI m.tail, 0, 0⟩]) m.tail.tail
        refine ⟨(coI m, coI m.tail) :: l, by rw [h1]; simp [lineSg], ?_, by simp; omega⟩
        intro q hq
        rcases List.mem_cons.1 hq with rfl | hq
        · exact ⟨coI_small _, coI_small _⟩
        · exact h2 q hq
  obtain ⟨l, h1, h2, h3⟩ := key 8 [⟨1, coI n, coI n.tail, 0, 0⟩] n.tail.tail
  refine ⟨(coI n, coI n.tail), l, ?_, ?_, h3⟩
  · unfold loopS pathP
    rw [h1]
    simp
  · intro p hp
    rcases List.mem_cons.1 hp with rfl | hp
    · exact ⟨coI_small _, coI_small _⟩
    · exact h2 p hp
/-- the points from the s-th on, round to it -/
def rotP (ps : List Pnt) (s : Nat) : List Pnt := ps.drop s ++ ps.take s
theorem rotP_len {ps : List Pnt} {s : Nat} (h : s ≤ ps.length) : (rotP ps s).length = ps.length := by unfold rotP; simp; omega
theorem rotP_get {ps : List Pnt} {s i : Nat} (hs : s < ps.length) (hi : i < ps.length) : (rotP ps s).getD i (0, 0) = ps.getD ((s + i) % ps.length) (0, 0) := by
  unfold rotP
  by_cases h : s + i < ps.length
  · rw [Nat.mod_eq_of_lt h]
    simp only [List.getD_eq_getElem?_getD]
    rw [List.getElem?_append_left (by simp; omega), List.getElem?_drop]
  · have e : (s + i) % ps.length = s + i - ps.length := by
      rw [Nat.mod_eq_sub_mod (by omega), Nat.mod_eq_of_lt (by omega)]
    rw [e]
    simp only [List.getD_eq_getElem?_getD]
    rw [List.getElem?_append_right (by simp; omega), List.length_drop, List.getElem?_take, if_pos (by omega), show i - (ps.length - s) = s + i - ps.length by omega]
theorem cyc_rotP {a : Pnt} {l : List Pnt} {s : Nat} (hs : s < l.length + 1) {b : Pnt} {m : List Pnt} (hr : rotP (a :: l) s = b :: m) (x y : Int) : cyc x y b m = cyc x y a l := by
  cases s with
  | zero =>
    unfold rotP at hr
    simp at hr
    rw [hr.1, hr.2]
  | succ s =>
    have hs2 : s < l.length := by omega
    unfold rotP at hr
    rw [List.drop_succ_cons, List.take_succ_cons, List.drop_eq_getElem_cons hs2, List.cons_append] at hr
    injection hr with h1 h2
    subst h1; subst h2
    rw [cyc_rot]
    congr 1
    rw [← List.drop_eq_getElem_cons hs2, List.take_append_drop]
theorem isIn_neg {r : Int} (hr : r = 0 ∨ r = 1) (n : Int) : isIn r (-n) = isIn r n := by
  have h0 : ∀ n : Int, isIn 0 n = decide (n ≠ 0) := fun _ => rfl
  have h1 : ∀ n : Int, isIn 1 n = decide (n % 2 ≠ 0) := fun _ => rfl
  rcases hr with h | h <;> subst h
  · rw [h0, h0]; exact decide_eq_decide.2 (by omega)
  · rw [h1, h1]; exact decide_eq_decide.2 (by omega)
def nearP (p : Pnt) : Prop := (-8000 ≤ p.1 ∧ p.1 ≤ 8000) ∧ -8000 ≤ p.2 ∧ p.2 ≤ 8000
theorem smallP.near {p : Pnt} (h : smallP p) : nearP p := by
  obtain ⟨h1, h2⟩ := h
  unfold smallI at h1 h2
  exact ⟨⟨by omega, by omega⟩, by omega, by omega⟩
theorem linesN_may (rest : List Sg) : ∀ (l : List Pnt) (last : Int), (∀ p ∈ l, nearP p) → last ≠ 0 → last ≠ 4 → (∀ k, k ≠ 0 → k ≠ 4 → maySF k rest = true) → maySF last (l.map lineSg ++ rest) = true
  | [], last, _, h0, h4, hr => hr last h0 h4
  | b :: l, last, hs, h0, h4, hr => by
    have hb := hs b List.mem_cons_self
    have hz : near1 0 = true := by decide
    have hright : rightS (lineSg b) last = true := by
      unfold rightS lineSg
      simp [near_of hb.1, near_of hb.2, hz, h0, h4]
    rw [List.map_cons, List.cons_append, maySF, hright, Bool.true_and]
    exact linesN_may rest l _ (fun p hp => hs p (List.mem_cons_of_mem _ hp)) (show (2 : Int) ≠ 0 by decide) (show (2 : Int) ≠ 4 by decide) hr
theorem pathN_may {a : Pnt} {l : List Pnt} (sh : Bool) (h : ∀ p ∈ a :: l, nearP p) (hl : l.length ≤ 200) : pathMay (pathP a l sh) = true := by
  have hz : near1 0 = true := by decide
  have ha := h a List.mem_cons_self
  have h1 : rightS ⟨1, a.1, a.2, 0, 0⟩ 0 = true := by
    unfold rightS
    simp [near_of ha.1, near_of ha.2, hz]
  unfold pathMay pathP
  rw [maySF, h1, Bool.true_and]
  have hm : maySF 1 (l.map lineSg ++ if sh then [⟨4, 0, 0, 0, 0⟩] else []) = true := by
    refine linesN_may _ l 1 (fun p hp => h p (List.mem_cons_of_mem _ hp)) (by decide) (by decide) fun k h0 h4 => ?_
    cases sh with
    | true =>
      have : rightS ⟨4, 0, 0, 0, 0⟩ k = true := by unfold rightS; simp [hz, h0, h4]
      simp only [if_true]
      rw [maySF, this]; rfl
    | false => rfl
  rw [hm, Bool.and_true]
  refine decide_eq_true ?_
  cases sh <;> (simp; omega)
theorem ln_rev (x y : Int) (a b : Pnt) : ln x y b a = -ln x y a b := turnG_line_rev a.1 a.2 b.1 b.2 x y
theorem cyc_cut (x y : Int) (p A : Pnt) (l : List Pnt) : cyc x y p (l ++ [A]) + cyc x y (lastP p l) [p, A] = cyc x y p l := by
  unfold cyc
  rw [wk_append, lastP_append]
  simp only [wk, lastP]
  have h1 := ln_rev x y p A
  have h2 := ln_rev x y (lastP p l) A
  omega

/-! a triangle's winding is as its area is -/
theorem up1 {a b v p : Int} (h : a ≤ v) (k : v < b) : stepUp a b v p = if 0 < p then 1 else 0 := by
  unfold stepUp; (repeat' split) <;> omega
theorem up2 {a b v p : Int} (h : v < a) (k : b ≤ v) : stepUp a b v p = if p < 0 then -1 else 0 := by
  unfold stepUp; (repeat' split) <;> omega
theorem up3 {a b v p : Int} (h : a ≤ v) (k : b ≤ v) : stepUp a b v p = 0 := by
  unfold stepUp; (repeat' split) <;> omega
theorem up4 {a b v p : Int} (h : v < a) (k : v < b) : stepUp a b v p = 0 := by
  unfold stepUp; (repeat' split) <;> omega
def TriO (a b c p q r v : Int) : Prop := (stepUp a b v p + stepUp b c v q + stepUp c a v r = 1 → 0 < p + q + r) ∧ (stepUp a b v p + stepUp b c v q + stepUp c a v r = -1 → p + q + r < 0)
theorem orient1 {a b c p q r v : Int} (hI : p * (c - v) + q * (a - v) + r * (b - v) = 0) (ha : a ≤ v) (hb : v < b) (hc : c ≤ v) : TriO a b c p q r v := by
  unfold TriO
  rw [up1 ha hb, up2 hb hc, up3 hc ha]
  constructor
  · intro h
    have hp : 0 < p := by by_cases k : 0 < p <;> by_cases j : q < 0 <;> simp [k, j] at h <;> omega
    have hq : 0 ≤ q := by by_cases k : 0 < p <;> by_cases j : q < 0 <;> simp [k, j] at h <;> omega
    have h1 := Int.mul_nonpos_of_nonneg_of_nonpos (show 0 ≤ p by omega) (show c - v ≤ 0 by omega)
    have h2 := Int.mul_nonpos_of_nonneg_of_nonpos hq (show a - v ≤ 0 by omega)
    rcases Int.lt_or_le r 0 with hr | hr
    · have := Int.mul_neg_of_neg_of_pos hr (show 0 < b - v by omega)
      omega
    · omega
  · intro h
    have hq : q < 0 := by by_cases k : 0 < p <;> by_cases j : q < 0 <;> simp [k, j] at h <;> omega
    have hp : p ≤ 0 := by by_cases k : 0 < p <;> by_cases j : q < 0 <;> simp [k, j] at h <;> omega
    have h1 := Int.mul_nonneg_of_nonpos_of_nonpos hp (show c - v ≤ 0 by omega)
    have h2 := Int.mul_nonneg_of_nonpos_of_nonpos (show q ≤ 0 by omega) (show a - v ≤ 0 by omega)
    rcases Int.lt_or_le 0 r with hr | hr
    · have := Int.mul_pos hr (show 0 < b - v by omega)
      omega
    · omega
theorem orient2 {a b c p q r v : Int} (hI : p * (c - v) + q * (a - v) + r * (b - v) = 0) (ha : v < a) (hb : b ≤ v) (hc : v < c) : TriO a b c p q r v := by
  unfold TriO
  rw [up2 ha hb, up1 hb hc, up4 hc ha]
  constructor
  · intro h
    have hq : 0 < q := by by_cases k : 0 < q <;> by_cases j : p < 0 <;> simp [k, j] at h <;> omega
    have hp : 0 ≤ p := by by_cases k : 0 < q <;> by_cases j : p < 0 <;> simp [k, j] at h <;> omega
    have h1 := Int.mul_nonneg hp (show 0 ≤ c - v by omega)
    have h2 := Int.mul_pos hq (show 0 < a - v by omega)
    rcases Int.lt_or_le r 0 with hr | hr
    · have := Int.mul_nonneg_of_nonpos_of_nonpos (show r ≤ 0 by omega) (show b - v ≤ 0 by omega)
      omega
    · omega
  · intro h
    have hp : p < 0 := by by_cases k : 0 < q <;> by_cases j : p < 0 <;> simp [k, j] at h <;> omega
    have hq : q ≤ 0 := by by_cases k : 0 < q <;> by_cases j : p < 0 <;> simp [k, j] at h <;> omega
    have h1 := Int.mul_neg_of_neg_of_pos hp (show 0 < c - v by omega)
    have h2 := Int.mul_nonpos_of_nonpos_of_nonneg hq (show 0 ≤ a - v by omega)
    rcases Int.lt_or_le 0 r with hr | hr
    · have := Int.mul_nonpos_of_nonneg_of_nonpos (show 0 ≤ r by omega) (show b - v ≤ 0 by omega)
      omega
    · omega
theorem TriO.rot {a b c p q r v : Int} (h : TriO b c a q r p v) : TriO a b c p q r v := by
  unfold TriO at *
  exact ⟨fun k => by have := h.1 (by omega); omega, fun k => by have := h.2 (by omega); omega⟩
theorem tri_orient {a b c p q r v : Int} (hI : p * (c - v) + q * (a - v) + r * (b - v) = 0) : TriO a b c p q r v := by
  have hI2 : q * (a - v) + r * (b - v) + p * (c - v) = 0 := by omega
  have hI3 : r * (b - v) + p * (c - v) + q * (a - v) = 0 := by omega
  rcases Int.lt_or_le v a with ha | ha <;> rcases Int.lt_or_le v b with hb | hb <;> rcases Int.lt_or_le v c with hc | hc
  · unfold TriO; rw [up4 ha hb, up4 hb hc, up4 hc ha]; exact ⟨by omega, by omega⟩
  · exact (orient2 hI2 hb hc ha).rot
  · exact orient2 hI ha hb hc
  · exact (orient1 hI3 hc ha hb).rot.rot
  · exact (orient2 hI3 hc ha hb).rot.rot
  · exact orient1 hI ha hb hc
  · exact (orient1 hI2 hb hc ha).rot
  · unfold TriO; rw [up3 ha hb, up3 hb hc, up3 hc ha]; exact ⟨by omega, by omega⟩

/-- the winding of three points -/
def tw (x y : Int) (a b c : Pnt) : Int := ln x y a b + ln x y b c + ln x y c a
def ar (a b c : Pnt) : Int := areaI a.1 a.2 b.1 b.2 c.1 c.2
theorem ln_step {x y : Int} {a b : Pnt} (ha : nearP a) (hb : nearP b) (hx : -8000 ≤ x ∧ x ≤ 8000) (hy : -8000 ≤ y ∧ y ≤ 8000) : ln x y a b = stepUp a.2 b.2 y (areaI a.1 a.2 b.1 b.2 x y) := by
  unfold ln
  rw [turnG_turnS ha.1 ha.2 hb.1 hb.2 hx hy, turnS_area]
theorem tw_bound {x y : Int} {a b c : Pnt} (ha : nearP a) (hb : nearP b) (hc : nearP c) (hx : -8000 ≤ x ∧ x ≤ 8000) (hy : -8000 ≤ y ∧ y ≤ 8000) : -1 ≤ tw x y a b c ∧ tw x y a b c ≤ 1 := by
  unfold tw
  rw [ln_step ha hb hx hy, ln_step hb hc hx hy, ln_step hc ha hx hy]
  exact tri_bound _ _ _ _ _ _ _
theorem tw_orient {x y : Int} {a b c : Pnt} (ha : nearP a) (hb : nearP b) (hc : nearP c) (hx : -8000 ≤ x ∧ x ≤ 8000) (hy : -8000 ≤ y ∧ y ≤ 8000) : (tw x y a b c = 1 → 0 < ar a b c) ∧ (tw x y a b c = -1 → ar a b c < 0) := by
  have h := tri_orient (tri_sum a.1 a.2 b.1 b.2 c.1 c.2 x y)
  have e : areaI a.1 a.2 b.1 b.2 x y + areaI b.1 b.2 c.1 c.2 x y + areaI c.1 c.2 a.1 a.2 x y = ar a b c := by unfold ar areaI; grind
  unfold TriO at h
  rw [e] at h
  unfold tw
  rw [ln_step ha hb hx hy, ln_step hb hc hx hy, ln_step hc ha hx hy]
  exact h
/-- twice a point, and the middle of two -/
def dbl (a : Pnt) : Pnt := (2 * a.1, 2 * a.2)
def mid (a b : Pnt) : Pnt := (a.1 + b.1, a.2 + b.2)
theorem ln_mid {x y : Int} {a b : Pnt} (ha : nearP (dbl a)) (hb : nearP (dbl b)) (hm : nearP (mid a b)) (hx : -8000 ≤ x ∧ x ≤ 8000) (hy : -8000 ≤ y ∧ y ≤ 8000) : ln x y (dbl a) (dbl b) = ln x y (dbl a) (mid a b) + ln x y (mid a b) (dbl b) := by
  rw [ln_step ha hb hx hy, ln_step ha hm hx hy, ln_step hm hb hx hy]
  have e1 : areaI (dbl a).1 (dbl a).2 (dbl b).1 (dbl b).2 x y = 2 * areaI (dbl a).1 (dbl a).2 (mid a b).1 (mid a b).2 x y := by unfold areaI dbl mid; grind
  have e2 : areaI (mid a b).1 (mid a b).2 (dbl b).1 (dbl b).2 x y = areaI (dbl a).1 (dbl a).2 (mid a b).1 (mid a b).2 x y := by unfold areaI dbl mid; grind
  rw [e1, e2]
  generalize areaI (dbl a).1 (dbl a).2 (mid a b).1 (mid a b).2 x y = p
  have m1 : (mid a b).2 = a.2 + b.2 := rfl
  have m2 : (dbl a).2 = 2 * a.2 := rfl
  have m3 : (dbl b).2 = 2 * b.2 := rfl
  rw [m1, m2, m3]
  unfold stepUp
  by_cases hp : 0 < p
  · have h2 : 0 < 2 * p := by omega
    have h3 : ¬ p < 0 := by omega
    have h4 : ¬ 2 * p < 0 := by omega
    simp only [hp, h2, h3, h4, and_true, and_false, if_false]
    (repeat' split) <;> omega
  · by_cases hn : p < 0
    · have h2 : ¬ 0 < 2 * p := by omega
      have h4 : 2 * p < 0 := by omega
      simp only [hp, h2, hn, h4, and_true, and_false, if_false]
      (repeat' split) <;> omega
    · have : p = 0 := by omega
      subst this
      simp
/-- the halves of a triangle, cut at the middle of a side -/
theorem halves {x y : Int} {a b c : Pnt} (ha : nearP (dbl a)) (hb : nearP (dbl b)) (hm : nearP (mid a b)) (hc : nearP c) (hx : -8000 ≤ x ∧ x ≤ 8000) (hy : -8000 ≤ y ∧ y ≤ 8000) :
    (decide (tw x y (dbl a) (dbl b) c ≠ 0) = (decide (tw x y (dbl a) (mid a b) c ≠ 0) || decide (tw x y (mid a b) (dbl b) c ≠ 0))) ∧ (decide (tw x y (dbl a) (mid a b) c ≠ 0) && decide (tw x y (mid a b) (dbl b) c ≠ 0)) = false := by
  have b1 := tw_bound ha hm hc hx hy
  have b2 := tw_bound hm hb hc hx hy
  have b3 := tw_bound ha hb hc hx hy
  have o1 := tw_orient ha hm hc hx hy
  have o2 := tw_orient hm hb hc hx hy
  have e : ar (mid a b) (dbl b) c = ar (dbl a) (mid a b) c := by unfold ar areaI dbl mid; grind
  rw [e] at o2
  have hs : tw x y (dbl a) (dbl b) c = tw x y (dbl a) (mid a b) c + tw x y (mid a b) (dbl b) c := by
    unfold tw
    have h1 := ln_mid ha hb hm hx hy
    have h2 := ln_rev x y (mid a b) c
    omega
  rw [hs] at b3 ⊢
  generalize tw x y (dbl a) (mid a b) c = u at *
  generalize tw x y (mid a b) (dbl b) c = v at *
  generalize ar (dbl a) (mid a b) c = D at *
  have hno : ¬ (u ≠ 0 ∧ v ≠ 0) := by
    rintro ⟨h1, h2⟩
    rcases (by omega : u = 1 ∨ u = -1) with k | k <;> rcases (by omega : v = 1 ∨ v = -1) with j | j
    · omega
    · have := o1.1 k; have := o2.2 j; omega
    · have := o1.2 k; have := o2.1 j; omega
    · omega
  constructor
  · by_cases h1 : u = 0
    · subst h1; simp
    · have h2 : v = 0 := by
        by_cases h2 : v = 0
        · exact h2
        · exact absurd ⟨h1, h2⟩ hno
      subst h2; simp
  · by_cases h1 : u = 0
    · subst h1; simp
    · by_cases h2 : v = 0
      · subst h2; simp
      · exact absurd ⟨h1, h2⟩ hno
theorem cyc_three (x y : Int) (a b c : Pnt) : cyc x y a [b, c] = tw x y a b c := by
  unfold cyc tw
  simp only [wk, lastP]
  omega
end Go.Proofs.Ytneddfiohekhiaa
