/- Plain laws: a path moved. -/
import Derived.Test.YtmoabhfpibkcnaaShf
import Derived.Test.YtmoabhfpibkcnaaMkL
import Derived.Test.YtmoabhfpibkcnaaEdgL
import Derived.Test.YtmoabhfpibkcnaaWindG
import Derived.Test.YtmoabhfpibkcnaaTurnL
namespace Go.Proofs.Ytmoabhfpibkcnaa

def movC (dx dy : Int) (c : Ct) : Ct := ⟨c.x + dx, c.y + dy, c.edges.map (movE dx dy), c.shut⟩
theorem moveS_kind (dx dy : Int) (s : Sg) : (moveS dx dy s).kind = s.kind := by
  unfold moveS; split
  · rfl
  · split
    · rename_i h; exact h.symm
    · rfl
theorem moveS_at (dx dy : Int) {s : Sg} (h : s.kind ≠ 4) : (moveS dx dy s).x = s.x + dx ∧ (moveS dx dy s).y = s.y + dy := by
  unfold moveS; rw [if_neg h]; split <;> exact ⟨rfl, rfl⟩
theorem segE_move (dx dy x y : Int) {s : Sg} (h : s.kind ≠ 4) : segE (x + dx) (y + dy) (moveS dx dy s) = movE dx dy (segE x y s) := by
  unfold segE movE moveS
  rw [if_neg h]
  by_cases h3 : s.kind = 3
  · simp [h3]
  · simp [h3]
theorem ctFold_none : ∀ (l : List Sg) (done : List Ct) (x y x' y' : Int), ctFold l done none x y = ctFold l done none x' y'
  | [], _, _, _, _, _ => rfl
  | s :: l, done, x, y, x', y' => by
    unfold ctFold
    split
    · rfl
    · exact ctFold_none l done x y x' y'
theorem ctFold_move (dx dy : Int) : ∀ (l : List Sg) (done : List Ct) (cur : Option Ct) (x y : Int), ctFold (l.map (moveS dx dy)) (done.map (movC dx dy)) (cur.map (movC dx dy)) (x + dx) (y + dy) = (ctFold l done cur x y).map (movC dx dy)
  | [], done, cur, x, y => by cases cur <;> simp [ctFold]
  | s :: l, done, cur, x, y => by
    rw [List.map_cons]
    unfold ctFold
    rw [moveS_kind]
    by_cases h1 : s.kind = 1
    · rw [if_pos h1, if_pos h1]
      obtain ⟨hx, hy⟩ := moveS_at dx dy (s := s) (by omega)
      rw [hx, hy]
      have := ctFold_move dx dy l (done ++ cur.toList) (some ⟨s.x, s.y, [], false⟩) s.x s.y
      rw [← this]
      congr 1
      cases cur <;> simp
    · rw [if_neg h1, if_neg h1]
      cases cur with
      | none => exact ctFold_move dx dy l done none x y
      | some c =>
        simp only [Option.map_some]
        by_cases h4 : s.kind = 4
        · rw [if_pos h4, if_pos h4]
          exact ctFold_move dx dy l done (some ⟨c.x, c.y, c.edges, true⟩) x y
        · rw [if_neg h4, if_neg h4]
          obtain ⟨hx, hy⟩ := moveS_at dx dy (s := s) h4
          rw [hx, hy]
          have := ctFold_move dx dy l done (some ⟨c.x, c.y, c.edges ++ [segE x y s], c.shut⟩) s.x s.y
          rw [← this]
          congr 1
          unfold movC
          simp only [Option.map_some, List.map_append, List.map_cons, List.map_nil, segE_move dx dy x y h4]
theorem edgesC_move (dx dy : Int) (c : Ct) : edgesC (movC dx dy c) = (edgesC c).map (movE dx dy) := by
  have hl : (movC dx dy c).edges.length = c.edges.length := by simp [movC]
  by_cases h0 : c.edges.length = 0
  · rw [edgesC_nil h0, edgesC_nil (by rw [hl]; exact h0)]; rfl
  · have he : (endE (movC dx dy c)).x1 = (endE c).x1 + dx ∧ (endE (movC dx dy c)).y1 = (endE c).y1 + dy := by
      have : endE (movC dx dy c) = movE dx dy (endE c) := by
        unfold endE
        rw [hl]
        unfold movC
        dsimp only
        have hlt : c.edges.length - 1 < c.edges.length := by omega
        simp [hlt]
      rw [this]
      unfold movE
      split <;> exact ⟨rfl, rfl⟩
    by_cases h1 : (endE c).x1 = c.x ∧ (endE c).y1 = c.y
    · rw [edgesC_shut h0 h1, edgesC_shut (by rw [hl]; exact h0) (by rw [he.1, he.2]; unfold movC; dsimp only; omega)]; rfl
    · rw [edgesC_open h0 h1, edgesC_open (by rw [hl]; exact h0) (by rw [he.1, he.2]; unfold movC; dsimp only; omega), he.1, he.2, List.map_append]
      unfold movC movE
      simp
theorem rightS_move {dx dy : Int} {s : Sg} (h1 : nearS s = true) (h2 : nearS (moveS dx dy s) = true) (last : Int) : rightS (moveS dx dy s) last = rightS s last := by
  unfold rightS
  unfold nearS at h1 h2
  rw [h1, h2, moveS_kind]
  unfold moveS
  by_cases h4 : s.kind = 4
  · simp [h4]
  · rw [if_neg h4]
    by_cases h3 : s.kind = 3
    · simp [h3]
    · simp [h3, h4]
theorem maySF_move {dx dy : Int} : ∀ (l : List Sg) (last : Int), (∀ s ∈ l, nearS s = true ∧ nearS (moveS dx dy s) = true) → maySF last (l.map (moveS dx dy)) = maySF last l
  | [], _, _ => rfl
  | s :: l, last, h => by
    obtain ⟨h1, h2⟩ := h s List.mem_cons_self
    rw [List.map_cons, maySF, maySF, rightS_move h1 h2, moveS_kind, maySF_move l _ fun t ht => h t (List.mem_cons_of_mem _ ht)]
/-- the edges of a path that is moved -/
theorem edges_move {dx dy : Int} {l : List Sg} (h : ∀ s ∈ l, nearS s = true ∧ nearS (moveS dx dy s) = true) : edgesS (l.map (moveS dx dy)) = (edgesS l).map (movE dx dy) := by
  have hm : pathMay (l.map (moveS dx dy)) = pathMay l := by unfold pathMay; rw [List.length_map, maySF_move l 0 h]
  have hc : contoursS (l.map (moveS dx dy)) = (contoursS l).map (movC dx dy) := by
    unfold contoursS
    rw [hm]
    split
    · rw [ctFold_none _ _ 0 0 (0 + dx) (0 + dy)]
      exact ctFold_move dx dy l [] none 0 0
    · rfl
  unfold edgesS
  rw [hc, List.flatMap_map]
  induction contoursS l with
  | nil => rfl
  | cons c cs ih => rw [List.flatMap_cons, List.flatMap_cons, List.map_append, ih, edgesC_move]

/-! small paths -/
def SmallE (e : Edg) : Prop := (smallI e.x0 ∧ smallI e.y0) ∧ (smallI e.cx ∧ smallI e.cy) ∧ smallI e.x1 ∧ smallI e.y1
theorem edges_small {l : List Sg} (h : ∀ s ∈ l, SmallS s) : ∀ e ∈ edgesS l, SmallE e := by
  have z : smallI 0 := by unfold smallI; omega
  exact edges_all SmallE (fun x y => smallI x ∧ smallI y) l (fun a b c d h1 h2 => ⟨h1, ⟨z, z⟩, h2⟩) (fun s hs _ => ⟨(h s hs).1, (h s hs).2.1⟩) fun s hs _ _ x y hxy => ⟨hxy, (h s hs).2.2, (h s hs).1, (h s hs).2.1⟩
theorem small_near {l : List Sg} (h : ∀ s ∈ l, SmallS s) {dx dy : Int} (hx : -1000 ≤ dx ∧ dx ≤ 1000) (hy : -1000 ≤ dy ∧ dy ≤ 1000) : ∀ s ∈ l, nearS s = true ∧ nearS (moveS dx dy s) = true := by
  intro s hs
  obtain ⟨h1, h2, h3, h4⟩ := h s hs
  unfold smallI at *
  refine ⟨by unfold nearS near1; simp; omega, ?_⟩
  unfold nearS moveS near1
  split
  · simp; omega
  · split <;> (simp; omega)
theorem mayE_move {e : Edg} (h : SmallE e) {dx dy : Int} (hx : -1000 ≤ dx ∧ dx ≤ 1000) (hy : -1000 ≤ dy ∧ dy ≤ 1000) : mayE (movE dx dy e) = mayE e := by
  obtain ⟨x0, y0, b, cx, cy, x1, y1⟩ := e
  obtain ⟨⟨h1, h2⟩, ⟨h3, h4⟩, h5, h6⟩ := h
  unfold smallI at *
  dsimp only at *
  have n : ∀ v : Int, -2000 ≤ v ∧ v ≤ 2000 → near1 v = true := fun v hv => by unfold near1; simp; omega
  unfold mayE movE
  cases b with
  | true =>
    simp only [if_true]
    rw [n (x0 + dx) (by omega), n (y0 + dy) (by omega), n (cx + dx) (by omega), n (cy + dy) (by omega), n (x1 + dx) (by omega), n (y1 + dy) (by omega), n x0 (by omega), n y0 (by omega), n cx (by omega), n cy (by omega), n x1 (by omega), n y1 (by omega)]
    rfl
  | false =>
    simp only [Bool.false_eq_true, if_false]
    rw [n (x0 + dx) (by omega), n (y0 + dy) (by omega), n cx (by omega), n cy (by omega), n (x1 + dx) (by omega), n (y1 + dy) (by omega), n x0 (by omega), n y0 (by omega), n x1 (by omega), n y1 (by omega)]
theorem windG_move {l : List Edg} (h : ∀ e ∈ l, SmallE e) {dx dy x y : Int} (hx : -1000 ≤ dx ∧ dx ≤ 1000) (hy : -1000 ≤ dy ∧ dy ≤ 1000) (hu : -5000 ≤ x ∧ x ≤ 5000) (hv : -5000 ≤ y ∧ y ≤ 5000) : windG (l.map (movE dx dy)) (x + dx) (y + dy) = windG l x y := by
  unfold windG
  rw [List.map_map]
  congr 1
  apply List.map_congr_left
  intro e he
  have n : ∀ v : Int, -6000 ≤ v ∧ v ≤ 6000 → near1 v = true := fun v hv => by unfold near1; simp; omega
  exact turnG_mov e dx dy x y (mayE_move (h e he) hx hy) (by rw [n _ (by omega), n _ (by omega)]) (by rw [n _ (by omega), n _ (by omega)])
theorem windG_append (l m : List Edg) (x y : Int) : windG (l ++ m) x y = windG l x y + windG m x y := by simp [windG]
theorem windG_turn (l : List Edg) (k : Nat) (x y : Int) : windG (l.drop k ++ l.take k) x y = windG l x y := by
  rw [windG_append, Int.add_comm, ← windG_append, List.take_append_drop]
end Go.Proofs.Ytmoabhfpibkcnaa
