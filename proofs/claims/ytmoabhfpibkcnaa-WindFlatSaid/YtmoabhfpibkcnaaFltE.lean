/- Flat paths, plain: the contours of a path whose bows are lines. -/
import Derived.Test.YtmoabhfpibkcnaaFltL
import Derived.Test.YtmoabhfpibkcnaaCtrM
namespace Go.Proofs.Ytmoabhfpibkcnaa
open Go.RowKit

def lineS (p : Int × Int) : Sg := ⟨2, p.1, p.2, 0, 0⟩
theorem segE_line (x y : Int) (p : Int × Int) : segE x y (lineS p) = lineE x y p.1 p.2 := by unfold segE lineS lineE; simp
theorem ctFold_lines (rest : List Sg) (done : List Ct) : ∀ (pts : List (Int × Int)) (c : Ct) (x y : Int), ctFold (pts.map lineS ++ rest) done (some c) x y = ctFold rest done (some ⟨c.x, c.y, c.edges ++ linesOf x y pts, c.shut⟩) (lastOf x y pts).1 (lastOf x y pts).2
  | [], c, x, y => by unfold linesOf lastOf; simp
  | (a, b) :: r, c, x, y => by
    rw [List.map_cons, List.cons_append, ctFold, if_neg (by simp [lineS])]
    simp only [show (lineS (a, b)).kind = 4 ↔ False by simp [lineS], if_false]
    rw [ctFold_lines rest done r, segE_line, linesOf, lastOf, List.append_assoc, List.singleton_append]
    rfl
section
variable (cnt : Edg → Nat)
/-- a path's bows as lines -/
def flatS : Int → Int → List Sg → List Sg
  | _, _, [] => []
  | x, y, s :: r => (if s.kind = 3 then (flatPts (segE x y s) (cnt (segE x y s))).map lineS else [s]) ++ flatS s.x s.y r
def flatC (c : Ct) : Ct := ⟨c.x, c.y, c.edges.flatMap fun e => flatE (cnt e) e, c.shut⟩
theorem ctFold_flat (hc : ∀ e, 1 ≤ cnt e) : ∀ (l : List Sg) (k : Int) (done : List Ct) (cur : Option Ct) (x y x' y' : Int), maySF k l = true → ((k = 0 ∨ k = 4) ∨ (x' = x ∧ y' = y ∧ cur.isSome = true)) → ctFold (flatS cnt x' y' l) (done.map (flatC cnt)) (cur.map (flatC cnt)) x y = (ctFold l done cur x y).map (flatC cnt)
  | [], k, done, cur, x, y, x', y', _, _ => by
    unfold flatS
    cases cur <;> simp [ctFold]
  | s :: r, k, done, cur, x, y, x', y', hm, hk => by
    rw [maySF, Bool.and_eq_true] at hm
    obtain ⟨hr, hm⟩ := hm
    have ih := fun d c x y x' y' h => ctFold_flat hc r s.kind d c x y x' y' hm h
    rw [flatS]
    by_cases h1 : s.kind = 1
    · have h3 : ¬ s.kind = 3 := by omega
      rw [if_neg h3, List.singleton_append, ctFold.eq_def (s :: _), ctFold.eq_def (s :: r)]
      dsimp only
      rw [if_pos h1, if_pos h1]
      have := ih (done ++ cur.toList) (some ⟨s.x, s.y, [], false⟩) s.x s.y s.x s.y (.inr ⟨rfl, rfl, rfl⟩)
      rw [← this]
      cases cur <;> simp [flatC]
    · have hk2 : ¬ (k = 0 ∨ k = 4) := fun h => h1 (by
        rcases h with h | h <;> subst h
        · exact rightS_first hr
        · unfold rightS at hr
          by_cases h4 : s.kind = 4 <;> by_cases h2 : s.kind = 2 ∨ s.kind = 3 <;> simp [h1, h4, h2] at hr)
      obtain ⟨rfl, rfl, hcur⟩ := hk.resolve_left hk2
      obtain ⟨c, rfl⟩ := Option.isSome_iff_exists.1 hcur
      rw [Option.map_some]
      by_cases h3 : s.kind = 3
      · rw [if_pos h3]
        have hl := flatPts_last (segE x' y' s) (hc (segE x' y' s))
        have hx : (segE x' y' s).x0 = x' ∧ (segE x' y' s).y0 = y' ∧ (segE x' y' s).x1 = s.x ∧ (segE x' y' s).y1 = s.y ∧ (segE x' y' s).bent = true := by unfold segE; simp [h3]
        rw [hx.1, hx.2.1, hx.2.2.1, hx.2.2.2.1] at hl
        have hk4 : ¬ s.kind = 4 := by omega
        rw [ctFold_lines, hl, ctFold.eq_def (s :: r)]
        simp only [h1, hk4, if_false]
        have := ih done (some ⟨c.x, c.y, c.edges ++ [segE x' y' s], c.shut⟩) s.x s.y s.x s.y (.inr ⟨rfl, rfl, rfl⟩)
        rw [← this]
        congr 1
        rw [Option.map_some]
        congr 1
        unfold flatC
        rw [List.flatMap_append]
        simp only [List.flatMap_cons, List.flatMap_nil, List.append_nil]
        congr 1
        rw [flatE, if_pos hx.2.2.2.2, hx.1, hx.2.1]
      · rw [if_neg h3, List.singleton_append, ctFold.eq_def (s :: _), ctFold.eq_def (s :: r)]
        dsimp only
        rw [if_neg h1, if_neg h1]
        by_cases h4 : s.kind = 4
        · rw [if_pos h4, if_pos h4]
          have := ih done (some ⟨c.x, c.y, c.edges, true⟩) x' y' s.x s.y (.inl (.inr h4))
          rw [← this]
          rfl
        · rw [if_neg h4, if_neg h4]
          have := ih done (some ⟨c.x, c.y, c.edges ++ [segE x' y' s], c.shut⟩) s.x s.y s.x s.y (.inr ⟨rfl, rfl, rfl⟩)
          rw [← this]
          congr 1
          rw [Option.map_some]
          congr 1
          unfold flatC
          rw [List.flatMap_append]
          simp only [List.flatMap_cons, List.flatMap_nil, List.append_nil]
          have hb : (segE x' y' s).bent = false := by unfold segE; simp [h3]
          rw [show flatE (cnt (segE x' y' s)) (segE x' y' s) = [segE x' y' s] by rw [flatE, if_neg (by rw [hb]; simp)]]
end
theorem linesOf_snoc : ∀ (l : List (Int × Int)) (a b : Int) (p : Int × Int), linesOf a b (l ++ [p]) = linesOf a b l ++ [lineE (lastOf a b l).1 (lastOf a b l).2 p.1 p.2]
  | [], _, _, (c, d) => rfl
  | (c, d) :: r, a, b, p => by
    rw [List.cons_append, linesOf, linesOf, linesOf_snoc r c d p, lastOf]
    rfl
/-- what a bow's lines end with -/
theorem flatE_snoc {n : Nat} (hn : 1 ≤ n) (e : Edg) : ∃ l f, flatE n e = l ++ [f] ∧ f.x1 = e.x1 ∧ f.y1 = e.y1 := by
  unfold flatE
  split
  · obtain ⟨m, rfl⟩ : ∃ m, n = m + 1 := ⟨n - 1, by omega⟩
    unfold flatPts
    rw [List.range_succ, List.map_append, List.map_cons, List.map_nil, linesOf_snoc]
    exact ⟨_, _, rfl, placeR_end _ _ _ hn, placeR_end _ _ _ hn⟩
  · exact ⟨[], e, rfl, rfl, rfl⟩
theorem endE_snoc (x y : Int) (l : List Edg) (f : Edg) (sh : Bool) : endE ⟨x, y, l ++ [f], sh⟩ = f := by
  unfold endE
  simp
theorem edgesC_snoc (x y : Int) (l : List Edg) (f : Edg) (sh : Bool) : edgesC ⟨x, y, l ++ [f], sh⟩ = if f.x1 = x ∧ f.y1 = y then l ++ [f] else l ++ [f] ++ [⟨f.x1, f.y1, false, 0, 0, x, y⟩] := by
  unfold edgesC
  have hlen : ¬ (l ++ [f]).length = 0 := by simp
  dsimp only
  rw [if_neg hlen, endE_snoc]
theorem edgesC_flat {cnt : Edg → Nat} (hc : ∀ e, 1 ≤ cnt e) (c : Ct) : edgesC (flatC cnt c) = (edgesC c).flatMap fun e => flatE (cnt e) e := by
  obtain ⟨x, y, es, sh⟩ := c
  rcases List.eq_nil_or_concat es with h0 | ⟨q, e, h0⟩
  · subst h0
    rfl
  · rw [List.concat_eq_append] at h0
    subst h0
    obtain ⟨l, f, hf, f1, f2⟩ := flatE_snoc (hc e) e
    have e1 : flatC cnt ⟨x, y, q ++ [e], sh⟩ = ⟨x, y, ((q.flatMap fun e => flatE (cnt e) e) ++ l) ++ [f], sh⟩ := by
      unfold flatC
      simp only [List.flatMap_append, List.flatMap_cons, List.flatMap_nil, List.append_nil, hf, List.append_assoc]
    have e2 : ((q ++ [e]).flatMap fun e => flatE (cnt e) e) = ((q.flatMap fun e => flatE (cnt e) e) ++ l) ++ [f] := by
      simp only [List.flatMap_append, List.flatMap_cons, List.flatMap_nil, List.append_nil, hf, List.append_assoc]
    rw [e1, edgesC_snoc, edgesC_snoc, f1, f2]
    split
    · exact e2.symm
    · rw [List.flatMap_append, e2]
      simp [flatE]
theorem flatMap_flatMap_edges {cnt : Edg → Nat} (hc : ∀ e, 1 ≤ cnt e) : ∀ cs : List Ct, (cs.map (flatC cnt)).flatMap edgesC = (cs.flatMap edgesC).flatMap fun e => flatE (cnt e) e
  | [] => rfl
  | c :: r => by
    rw [List.map_cons, List.flatMap_cons, List.flatMap_cons, List.flatMap_append, edgesC_flat hc, flatMap_flatMap_edges hc r]
/-- the edges of a path whose bows are lines -/
theorem edgesS_flat {cnt : Edg → Nat} (hc : ∀ e, 1 ≤ cnt e) {l : List Sg} (h : pathMay l = true) (h2 : pathMay (flatS cnt 0 0 l) = true) : edgesS (flatS cnt 0 0 l) = (edgesS l).flatMap fun e => flatE (cnt e) e := by
  have hm : maySF 0 l = true := by
    have : l.length ≤ 300 ∧ maySF 0 l = true := by simpa [pathMay] using h
    exact this.2
  unfold edgesS contoursS
  rw [h, h2, if_pos rfl, if_pos rfl]
  have := ctFold_flat cnt hc l 0 [] none 0 0 0 0 hm (.inl (.inl rfl))
  rw [List.map_nil, Option.map_none] at this
  rw [this]
  exact flatMap_flatMap_edges hc _
theorem windG_flatMap {F : Edg → List Edg} {u v : Int} : ∀ l : List Edg, (∀ e ∈ l, windG (F e) u v = turnG e u v) → windG (l.flatMap F) u v = windG l u v
  | [], _ => rfl
  | e :: r, h => by
    have h1 := h e List.mem_cons_self
    have ih := windG_flatMap r fun e he => h e (List.mem_cons_of_mem _ he)
    unfold windG at *
    rw [List.flatMap_cons, List.map_append, List.sum_append, h1, ih, List.map_cons, List.sum_cons]
end Go.Proofs.Ytmoabhfpibkcnaa
