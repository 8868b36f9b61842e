/- Plain laws: a polygon begun elsewhere. -/
import Derived.Test.YtneddfiohekhiaaBoxM
namespace Go.Proofs.Ytneddfiohekhiaa

abbrev Pnt := Int × Int
def ln (x y : Int) (a b : Pnt) : Int := turnG (lineE a.1 a.2 b.1 b.2) x y
def wk (x y : Int) : Pnt → List Pnt → Int
  | _, [] => 0
  | a, b :: l => ln x y a b + wk x y b l
def lastP : Pnt → List Pnt → Pnt
  | a, [] => a
  | _, b :: l => lastP b l
def cyc (x y : Int) (a : Pnt) (l : List Pnt) : Int := wk x y a l + ln x y (lastP a l) a
theorem wk_append (x y : Int) : ∀ (l m : List Pnt) (a : Pnt), wk x y a (l ++ m) = wk x y a l + wk x y (lastP a l) m
  | [], m, a => by simp [wk, lastP]
  | b :: l, m, a => by rw [List.cons_append, wk, wk_append x y l m b, wk, lastP]; omega
theorem lastP_append : ∀ (l m : List Pnt) (a : Pnt), lastP a (l ++ m) = lastP (lastP a l) m
  | [], _, _ => rfl
  | b :: l, m, a => lastP_append l m b
theorem cyc_rot (x y : Int) (a b : Pnt) (l m : List Pnt) : cyc x y b (m ++ a :: l) = cyc x y a (l ++ b :: m) := by
  unfold cyc
  rw [wk_append, wk_append, lastP_append, lastP_append]
  simp only [wk, lastP]
  omega
def lineSg (b : Pnt) : Sg := ⟨2, b.1, b.2, 0, 0⟩
def pathP (a : Pnt) (l : List Pnt) (sh : Bool) : List Sg := ⟨1, a.1, a.2, 0, 0⟩ :: (l.map lineSg ++ if sh then [⟨4, 0, 0, 0, 0⟩] else [])
def chainL : Pnt → List Pnt → List Edg
  | _, [] => []
  | a, b :: l => lineE a.1 a.2 b.1 b.2 :: chainL b l
theorem chainL_wind (x y : Int) : ∀ (l : List Pnt) (a : Pnt), windG (chainL a l) x y = wk x y a l
  | [], _ => rfl
  | b :: l, a => by rw [chainL, windG_cons, chainL_wind x y l b]; rfl
theorem chainL_end : ∀ (l : List Pnt) (a : Pnt), endX a.1 (chainL a l) = (lastP a l).1 ∧ endY a.2 (chainL a l) = (lastP a l).2
  | [], _ => ⟨rfl, rfl⟩
  | b :: l, a => chainL_end l b
theorem chainL_len : ∀ (l : List Pnt) (a : Pnt), (chainL a l).length = l.length
  | [], _ => rfl
  | b :: l, a => by rw [chainL, List.length_cons, chainL_len l b, List.length_cons]
theorem fold_line (rest : List Sg) (done : List Ct) (sx sy : Int) (sh : Bool) : ∀ (l : List Pnt) (acc : List Edg) (a : Pnt), ctFold (l.map lineSg ++ rest) done (some ⟨sx, sy, acc, sh⟩) a.1 a.2 = ctFold rest done (some ⟨sx, sy, acc ++ chainL a l, sh⟩) (lastP a l).1 (lastP a l).2
  | [], acc, a => by simp [chainL, lastP]
  | b :: l, acc, a => by
    rw [List.map_cons, List.cons_append, ctFold.eq_def]
    dsimp only
    rw [if_neg (by unfold lineSg; simp), if_neg (by unfold lineSg; simp)]
    have e : segE a.1 a.2 (lineSg b) = lineE a.1 a.2 b.1 b.2 := rfl
    have := fold_line rest done sx sy sh l (acc ++ [segE a.1 a.2 (lineSg b)]) b
    rw [show (lineSg b).x = b.1 from rfl, show (lineSg b).y = b.2 from rfl, this, e]
    simp [chainL, lastP]
theorem pathP_wind {a : Pnt} {l : List Pnt} {sh : Bool} (hm : pathMay (pathP a l sh) = true) (x y : Int) : windG (edgesS (pathP a l sh)) x y = cyc x y a l := by
  have hc : contoursS (pathP a l sh) = [⟨a.1, a.2, chainL a l, sh⟩] := by
    unfold contoursS
    rw [hm]
    unfold pathP
    rw [if_pos rfl, ctFold.eq_def]
    dsimp only
    rw [if_pos rfl, fold_line]
    cases sh with
    | true =>
      simp only [if_true]
      rw [ctFold.eq_def]
      simp [ctFold]
    | false => simp [ctFold]
  unfold edgesS
  rw [hc]
  simp only [List.flatMap_cons, List.flatMap_nil, List.append_nil]
  unfold cyc
  rw [← chainL_wind x y l a]
  by_cases h0 : (chainL a l).length = 0
  · rw [edgesC_nil (by simpa using h0)]
    have hl : l = [] := List.length_eq_zero_iff.1 (by rw [← chainL_len l a]; exact h0)
    subst hl
    show (0 : Int) = 0 + turnG (lineE a.1 a.2 a.1 a.2) x y
    rw [turnG_dot]; rfl
  · obtain ⟨e1, e2⟩ := endE_eq ⟨a.1, a.2, chainL a l, sh⟩ h0
    obtain ⟨f1, f2⟩ := chainL_end l a
    dsimp only at e1 e2
    rw [f1] at e1
    rw [f2] at e2
    by_cases h1 : (lastP a l).1 = a.1 ∧ (lastP a l).2 = a.2
    · rw [edgesC_shut h0 (by rw [← e1, ← e2]; exact h1)]
      unfold ln
      rw [h1.1, h1.2, turnG_dot]
      show windG (chainL a l) x y = _
      omega
    · rw [edgesC_open h0 (by rw [← e1, ← e2]; exact h1), windG_append, ← e1, ← e2, windG_cons, windG_nil]
      show windG (chainL a l) x y + (turnG (lineE (lastP a l).1 (lastP a l).2 a.1 a.2) x y + 0) = _
      unfold ln; omega
def smallP (p : Pnt) : Prop := smallI p.1 ∧ smallI p.2
theorem lines_may (rest : List Sg) : ∀ (l : List Pnt) (last : Int), (∀ p ∈ l, smallP p) → last ≠ 0 → last ≠ 4 → (∀ k, k ≠ 0 → k ≠ 4 → maySF k rest = true) → maySF last (l.map lineSg ++ rest) = true
  | [], last, _, h0, h4, hr => hr last h0 h4
  | b :: l, last, hs, h0, h4, hr => by
    have hb := hs b List.mem_cons_self
    have hz : near1 0 = true := by decide
    have hright : rightS (lineSg b) last = true := by
      unfold rightS lineSg
      simp [smallI_near hb.1, smallI_near hb.2, hz, h0, h4]
    rw [List.map_cons, List.cons_append, maySF, hright, Bool.true_and]
    exact lines_may rest l _ (fun p hp => hs p (List.mem_cons_of_mem _ hp)) (show (2 : Int) ≠ 0 by decide) (show (2 : Int) ≠ 4 by decide) hr
theorem pathP_may {a : Pnt} {l : List Pnt} (sh : Bool) (h : ∀ p ∈ a :: l, smallP p) (hl : l.length ≤ 200) : pathMay (pathP a l sh) = true := by
  have hz : near1 0 = true := by decide
  have ha := h a List.mem_cons_self
  have h1 : rightS ⟨1, a.1, a.2, 0, 0⟩ 0 = true := by
    unfold rightS
    simp [smallI_near ha.1, smallI_near ha.2, hz]
  unfold pathMay pathP
  rw [maySF, h1, Bool.true_and]
  have hm : maySF 1 (l.map lineSg ++ if sh then [⟨4, 0, 0, 0, 0⟩] else []) = true := by
    refine lines_may _ l 1 (fun p hp => h p (List.mem_cons_of_mem _ hp)) (by decide) (by decide) fun k h0 h4 => ?_
    cases sh with
    | true =>
      have : rightS ⟨4, 0, 0, 0, 0⟩ k = true := by unfold rightS; simp [hz, h0, h4]
      simp only [if_true]
      rw [maySF, this]; rfl
    | false => rfl
  rw [hm, Bool.and_true]
  refine decide_eq_true ?_
  cases sh <;> (simp; omega)
/-- Loop's path is one of points -/
theorem loop_points (n : List Int) : ∃ a l, loopS n = pathP a l true ∧ (∀ p ∈ a :: l, smallP p) ∧ l.length ≤ 8 := by
  have key : ∀ f (p : List Sg) m, ∃ l : List Pnt, loopF f p m = p ++ l.map lineSg ∧ (∀ q ∈ l, smallP q) ∧ l.length ≤ f := by
    intro f
    induction f with
    | zero => intro p m; exact ⟨[], by simp [loopF], by simp, by simp⟩
    | succ f ih =>
      intro p m
      rw [loopF]
      split
      · exact ⟨[], by simp, by simp, by simp⟩
      · obtain ⟨l, h1, h2, h3⟩ := ih (p ++ [⟨2, coI m, coI m.tail, 0, 0⟩]) m.tail.tail
        refine ⟨(coI m, coI m.tail) :: l, by rw [h1]; simp [lineSg], ?_, by simp; omega⟩
        intro q hq
        rcases List.mem_cons.1 hq with rfl | hq
        · exact ⟨coI_small _, coI_small _⟩
        · exact h2 q hq
  obtain ⟨l, h1, h2, h3⟩ := key 8 [⟨1, coI n, coI n.tail, 0, 0⟩] n.tail.tail
  refine ⟨(coI n, coI n.tail), l, ?_, ?_, h3⟩
  · unfold loopS pathP
    rw [h1]
    simp
  · intro p hp
    rcases List.mem_cons.1 hp with rfl | hp
    · exact ⟨coI_small _, coI_small _⟩
    · exact h2 p hp
/-- the points from the s-th on, round to it -/
def rotP (ps : List Pnt) (s : Nat) : List Pnt := ps.drop s ++ ps.take s
theorem rotP_len {ps : List Pnt} {s : Nat} (h : s ≤ ps.length) : (rotP ps s).length = ps.length := by unfold rotP; simp; omega
theorem rotP_get {ps : List Pnt} {s i : Nat} (hs : s < ps.length) (hi : i < ps.length) : (rotP ps s).getD i (0, 0) = ps.getD ((s + i) % ps.length) (0, 0) := by
  unfold rotP
  by_cases h : s + i < ps.length
  · rw [Nat.mod_eq_of_lt h]
    simp only [List.getD_eq_getElem?_getD]
    rw [List.getElem?_append_left (by simp; omega), List.getElem?_drop]
  · have e : (s + i) % ps.length = s + i - ps.length := by
      rw [Nat.mod_eq_sub_mod (by omega), Nat.mod_eq_of_lt (by omega)]
    rw [e]
    simp only [List.getD_eq_getElem?_getD]
    rw [List.getElem?_append_right (by simp; omega), List.length_drop, List.getElem?_take, if_pos (by omega), show i - (ps.length - s) = s + i - ps.length by omega]
theorem cyc_rotP {a : Pnt} {l : List Pnt} {s : Nat} (hs : s < l.length + 1) {b : Pnt} {m : List Pnt} (hr : rotP (a :: l) s = b :: m) (x y : Int) : cyc x y b m = cyc x y a l := by
  cases s with
  | zero =>
    unfold rotP at hr
    simp at hr
    rw [hr.1, hr.2]
  | succ s =>
    have hs2 : s < l.length := by omega
    unfold rotP at hr
    rw [List.drop_succ_cons, List.take_succ_cons, List.drop_eq_getElem_cons hs2, List.cons_append] at hr
    injection hr with h1 h2
    subst h1; subst h2
    rw [cyc_rot]
    congr 1
    rw [← List.drop_eq_getElem_cons hs2, List.take_append_drop]
theorem isIn_neg {r : Int} (hr : r = 0 ∨ r = 1) (n : Int) : isIn r (-n) = isIn r n := by
  have h0 : ∀ n : Int, isIn 0 n = decide (n ≠ 0) := fun _ => rfl
  have h1 : ∀ n : Int, isIn 1 n = decide (n % 2 ≠ 0) := fun _ => rfl
  rcases hr with h | h <;> subst h
  · rw [h0, h0]; exact decide_eq_decide.2 (by omega)
  · rw [h1, h1]; exact decide_eq_decide.2 (by omega)
end Go.Proofs.Ytneddfiohekhiaa
